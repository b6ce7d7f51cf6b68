/- Parts of the proof: KH. -/
import Derived.Test.YtidohmpnefcpcaaGHubPlays6
namespace Go.Proofs.Ytidohmpnefcpcaa
open Go.RowKit
/-! ### hub: Arrive -/
/-- bounds of a link -/
structure LFit (B : Nat) (d : LnkD) : Prop where
  bw : d.snd.base + d.snd.wait.length ≤ B
  uh : d.upto + d.held.length ≤ B
  hh : d.held.length ≤ B
  tl : ∀ b ∈ d.snd.wait, b.length ≤ 4096
structure PackD where
  kind : Int
  fr : Pid
  dst : Pid
  seq : Nat
  body : List Nat
def gotC (p : Pid) (bs : List Nat) : List Value × List Nat := ([.int .u16 p.1, .int .u32 p.2], bs)
def arriveR (sf : Pid) (H : HubD) (k : PackD) : List (List Nat) × HubD :=
  if k.dst = sf ∧ otherB sf k.fr = true then
    if k.kind = 2 then
      match linkD H k.fr with
      | none => ([], H)
      | some H' => match look k.fr H' with
        | none => ([], H')
        | some d => (takeL d k.seq k.body, ins k.fr (takeD d k.seq k.body) H')
    else if k.kind = 3 then
      match look k.fr H with
      | none => ([], H)
      | some d => ([], ins k.fr { d with snd := ackD d.snd k.seq } H)
    else ([], H)
  else ([], H)
theorem infoGot : (Try.prog.info? 43).map (fun i => (i.zero, i.size, i.bytes)) = some (some (.agg #[.int .u16 0, .int .u32 0, .slice none 0 0]), 3, 32) := by kernel_rfl
/-- append of an element out of a box -/
theorem wpList_appendE {w : World} {ops : Array Oper} {rest : List Oper} {o : Oper} {a : Go.Act} {Q : Exit → Go.Act → World → Prop} {s x : Operand} {base k bytes : Nat} {T E : TypeId} {i0 : TypeInfo} {z : Value} {v : Value} {xs : List (List Value)} {el : List Value} {b c : Nat}
    (ht : Try.prog.underlying T = some (.slice E)) (hi : Try.prog.info? E = some i0) (hz0 : i0.zero = some z) (hz1 : i0.size = k) (hz2 : i0.bytes = bytes) (hzs : z.cells.size = k) (hk : 0 < k) (hbt : bytes ≤ 1000)
    (hown : OwnK w base E k v xs) (hel : el.length = k) (h1 : ∀ u ∈ el, u.oneCell' = true) (hc : ∀ j u, el[j]? = some u → w.cell? ⟨b, j, none⟩ = some u) (hl : xs.length + 1 ≤ 1000000) (hbase : base ≤ w.heap.size) (hg : o.guard = none)
    (ho : o.op = .call { callee := .builtin .append, args := #[s, x], argTypes := #[T, T] }) (hs : a.eval s = v) (hx : a.eval x = .slice (some ⟨b, 0, none⟩) 1 c)
    (h : ∀ v' w', OwnK w' base E k v' (xs ++ [el]) → Mut (fun g => v.ownBlock = some g) w w' → (∀ g, v'.ownBlock = some g → v.ownBlock = some g ∨ w.heap.size ≤ g) → wpList Try.prog ops Q rest (a.put o.dst v') w') : wpList Try.prog ops Q (o :: rest) a w := by
  obtain ⟨v', w', hr, h2, h3, h4, -⟩ := hown.append (c := c) T o.type i0 z bytes ht hi hz0 hz1 hz2 hzs hk hel h1 hc hl hbt hbase
  exact Lib.wpList_append_run w hg s x T T ho _ _ hs hx v' w' hr (h v' w' h2 h3 h4)
/-- what Arrive leaves -/
structure ArrR (w w' : World) (N N' : Nat → Prop) (h r : Nat) (sf : Pid) (L L' : List HubX) (fr : Pid) (ls : List (List Nat)) (v : Value) (xs : List (List Value)) : Prop where
  hub : HubR w w' N N' h r sf L L'
  row : OwnK w' w.heap.size 43 3 v xs
  els : ElsAt w' (fun b => N' b ∨ v.ownBlock = some b) xs (ls.map (gotC fr))
  nv : ∀ g, v.ownBlock = some g → ¬ N' g
theorem ArrR.none {w w' : World} {N N' : Nat → Prop} {h r : Nat} {sf fr : Pid} {L L' : List HubX} (H : HubR w w' N N' h r sf L L') : ArrR w w' N N' h r sf L L' fr [] (.slice none 0 0) [] :=
  ⟨H, OwnK.nil _ _ _ _, ElsAt.nil _ _, fun g e => by cases e⟩
/-- a link was turned, no block is new -/
theorem HubR.turn {w w' : World} {N : Nat → Prop} {h r : Nat} {sf : Pid} {A B : List HubX} {x : HubX} {k : LnkP} {d : LnkD} (H : HubIs w N h r sf (A ++ x :: B)) (hN : ∀ b, N b → b < w.heap.size) (hm : Mut (fpL x.k) w w') (hl : LnkIs w' N k d) (hlb : k.lb = x.k.lb) (hfk : ∀ b, fpL k b → fpL x.k b) : HubR w w' N N h r sf (A ++ x :: B) (A ++ ⟨x.p, k, d⟩ :: B) := by
  refine ⟨H.turn hm (fun _ e => e) (fun _ e => .inl e) hl hlb (fun b e => .inl (hfk b e)), fun _ e => e, fun _ e => .inl e, fun b e => Nat.lt_of_lt_of_le (hN b e) hm.size, hm.mono fun b _ e => .inr (.inr ⟨x, by simp, e⟩), fun b e => ?_⟩
  rcases e with e | e | ⟨y, hy, e⟩
  · exact .inl (.inl e)
  · exact .inl (.inr (.inl e))
  · simp only [List.mem_append, List.mem_cons] at hy
    rcases hy with hy | rfl | hy
    · exact .inl (.inr (.inr ⟨y, by simp [hy], e⟩))
    · exact .inl (.inr (.inr ⟨x, by simp, hfk b e⟩))
    · exact .inl (.inr (.inr ⟨y, by simp [hy], e⟩))
theorem takeGo_len : ∀ (f u : Nat) (H : List (Nat × List Nat)), (takeGo f u H).1.length ≤ H.length
  | 0, _, _ => by simp [takeGo]
  | f + 1, u, H => by
    cases h : look (u + 1) H with
    | none => rw [takeGo_none h]; simp
    | some b =>
      rw [takeGo_some h]
      have h1 := takeGo_len f (u + 1) (del (u + 1) H)
      have h2 := del_len h
      simp only [List.length_cons]
      omega
theorem ins_lenK {α β : Type} [DecidableEq α] {x : α} {v : β} : ∀ L : List (α × β), (ins x v L).length ≤ L.length + 1
  | [] => by simp [ins]
  | p :: l => by
    simp only [ins]
    split
    · simp
    · have := ins_lenK (x := x) (v := v) l
      simp; omega
theorem takeL_len (d : LnkD) (q : Nat) (bs : List Nat) : (takeL d q bs).length ≤ d.held.length + 1 := by
  unfold takeL
  split
  · simp
  · exact Nat.le_trans (takeGo_len _ _ _) (ins_lenK _)
theorem els3 {x y z : Value} (h1 : x.oneCell' = true) (h2 : y.oneCell' = true) (h3 : z.oneCell' = true) : ∀ u ∈ [x, y, z], u.oneCell' = true := fun u hu => by
  simp at hu
  rcases hu with rfl | rfl | rfl <;> assumption
theorem cells3_new (W : World) (t : TypeId) (x y z : Value) : ∀ j u, [x, y, z][j]? = some u → (W.alloc (.cells #[x, y, z] t)).cell? ⟨W.heap.size, j, none⟩ = some u := fun j u hj => by
  match j, hj with
  | 0, hj => simp at hj; subst hj; simp
  | 1, hj => simp at hj; subst hj; simp
  | 2, hj => simp at hj; subst hj; simp
  | j + 3, hj => simp at hj
theorem linkD_mem {H H' : HubD} {p : Pid} {x : Pid × LnkD} (h : linkD H p = some H') (hx : x ∈ H') : x ∈ H ∨ x.2 = lnkNew := by
  unfold linkD at h
  cases hl : look p H with
  | some d => rw [hl] at h; cases h; exact .inl hx
  | none =>
    rw [hl] at h
    split at h
    · next d e => cases e
    · split at h
      · cases h
        rcases List.mem_append.1 hx with hx | hx
        · exact .inl hx
        · rw [List.mem_singleton.1 hx]; exact .inr rfl
      · cases h
set_option maxRecDepth 100000 in
set_option maxHeartbeats 6400000 in
theorem harrive_any {w : World} {N : Nat → Prop} {h r : Nat} {sf : Pid} {L : List HubX} {kd f1 f2 t1 t2 : Int} {sq n bc B : Nat} {ba : Option Addr} {bs : List Nat} (H : HubIs w N h r sf L) (hN : ∀ b, N b → b < w.heap.size) (hF : ∀ x ∈ L, LFit B x.d) (hB : B ≤ 900000) (hok : ok (f1, f2)) (hsq : sq < 18446744073709551616) (hn : Hid (bs.length = n)) (hnl : n ≤ 549755813888) (hr : ByteRow w ba bs) (hx : ∀ x ∈ bs, x < 256) (hbl : ∀ b off, ba = some ⟨b, off, none⟩ → bs ≠ [] → ¬ fpH h r L b) :
    Calls Try.prog 13 #[.pointer (some ⟨h, 0, none⟩), .agg #[.int .i64 kd, .int .u16 f1, .int .u32 f2, .int .u16 t1, .int .u32 t2, .int .u64 sq, .slice ba n bc]] w fun e w' => ∃ v, e = .returned v ∧ ∃ N' L' xs, ArrR w w' N N' h r sf L L' (f1, f2) (arriveR sf (hubD L) ⟨kd, (f1, f2), (t1, t2), sq, bs⟩).1 v xs ∧ hubD L' = (arriveR sf (hubD L) ⟨kd, (f1, f2), (t1, t2), sq, bs⟩).2 := by
  obtain ⟨W1, hW1⟩ : ∃ W1, w.alloc (.cells #[.int .i64 kd, .int .u16 f1, .int .u32 f2, .int .u16 t1, .int .u32 t2, .int .u64 sq, .slice ba n bc] 41) = W1 := ⟨_, rfl⟩
  have hb1 : Below w.heap.size w W1 := by rw [← hW1]; exact (Below.refl _ _).alloc (Nat.le_refl _) _
  have p0 : W1.cell? ⟨w.heap.size, 0, none⟩ = some (.int .i64 kd) := by rw [← hW1]; simp
  have p1 : W1.cell? ⟨w.heap.size, 1, none⟩ = some (.int .u16 f1) := by rw [← hW1]; simp
  have p2 : W1.cell? ⟨w.heap.size, 2, none⟩ = some (.int .u32 f2) := by rw [← hW1]; simp
  have p3 : W1.cell? ⟨w.heap.size, 3, none⟩ = some (.int .u16 t1) := by rw [← hW1]; simp
  have p4 : W1.cell? ⟨w.heap.size, 4, none⟩ = some (.int .u32 t2) := by rw [← hW1]; simp
  have p5 : W1.cell? ⟨w.heap.size, 5, none⟩ = some (.int .u64 sq) := by rw [← hW1]; simp
  have p6 : W1.cell? ⟨w.heap.size, 6, none⟩ = some (.slice ba n bc) := by rw [← hW1]; simp
  have H1 := H.ext hb1
  obtain ⟨a, b⟩ := sf
  have c0 := H1.c0
  have c1 := H1.c1
  have HH := hid H
  have HH1 := hid H1
  have HB1 := hid hb1
  have HN0 := hid hN
  have hne : ∀ w, (binOp .neq 30 (.agg #[.int .u16 t1, .int .u32 t2]) (.agg #[.int .u16 a, .int .u32 b])).run Try.prog w = .ok (.bool (!decide ((t1, t2) = (a, b)))) w := fun w => neq_pid t1 t2 a b w
  by_cases hto : (t1, t2) = (a, b)
  · simp only [hto, decide_true, Bool.not_true] at hne
    have CO0 : ∀ W, Below W1.heap.size W1 W → Calls Try.prog 29 #[.pointer (some ⟨h, 0, none⟩), .agg #[.int .u16 f1, .int .u32 f2]] W fun e w' => e = .returned (.bool (otherB (a, b) (f1, f2))) ∧ Below W.heap.size W w' := fun W hb => other_any (H1.ext hb) f1 f2
    have g0 := cell_extK c0
    have g1 := cell_extK c1
    have g2 := cell_extK p1
    have g3 := cell_extK p2
    have g4 := cell_extK p3
    have g5 := cell_extK p4
    cases ho : otherB (a, b) (f1, f2)
    · rw [ho] at CO0
      have CO := hid CO0
      have HQ : Hid (arriveR (a, b) (hubD L) ⟨kd, (f1, f2), (t1, t2), sq, bs⟩ = ([], hubD L)) := hid (by unfold arriveR; rw [if_neg fun e => by have := e.2; rw [ho] at this; cases this])
      clear H H1 hN c0 c1 hb1 p0 p1 p2 p3 p4 p5 p6 hto hr hbl hF hx CO0 ho
      go_enter Try.func13, Try.ntmps13
      go_wp2_with fail
      refine wp_region_ext (w := W1) (Below.refl _ _) (by kernel_rfl) (by kernel_rfl) ?_
      repeat (go_big_quiet_step (exact det_ext CO _))
      refine wpQuiet_nil ?_
      rintro _ ⟨⟨w9, hb9⟩, rfl⟩
      go_wp2_with fail
      go_ret
      exact ⟨_, rfl, N, L, [], by rw [HQ.out]; exact ArrR.none (HubR.same HH.out HN0.out (HB1.out.trans (hb9.mono HB1.out.size))), by rw [HQ.out]⟩
    · rw [ho] at CO0
      have CO := hid CO0
      have HO := hid ho
      have HTO := hid hto
      clear CO0
      by_cases hk2 : kd = 2
      · subst hk2
        have HX := hid hx
        have HBL := hid hbl
        have HR0 := hid hr
        have HF0 := hid hF
        clear H H1 hN c0 c1 hb1 p3 p4 hto hr hbl hF hx ho
        go_enter Try.func13, Try.ntmps13
        go_wp2_with fail
        refine wp_region_ext (w := W1) (Below.refl _ _) (by kernel_rfl) (by kernel_rfl) ?_
        repeat (go_big_quiet_step (exact det_ext CO _))
        refine wpQuiet_nil ?_
        rintro w9 ⟨⟨_, hb9⟩, rfl⟩
        have q0 := cell_toB p0 hb9
        have q1 := cell_toB p1 hb9
        have q2 := cell_toB p2 hb9
        have q5 := cell_toB p5 hb9
        have q6 := cell_toB p6 hb9
        have H9 := HH1.out.ext hb9
        have HB9 := hid hb9
        have CL := hid (hlink_any H9 (fun b e => by have := HN0.out b e; have := HB1.out.size; have := hb9.size; show b < _; omega) f1 f2 hok)
        clear H9 hb9 p0 p1 p2 p5 p6 g0 g1 g2 g3 g4 g5
        go_wp2_with fail
        refine CL.out.mono ?_
        rintro e w3 (⟨rfl, hd, hb3⟩ | ⟨N', A, z, B', rfl, HR3, hp, hA, hd⟩)
        · have HQ : Hid (arriveR (a, b) (hubD L) ⟨2, (f1, f2), (t1, t2), sq, bs⟩ = ([], hubD L)) := hid (by unfold arriveR; rw [if_pos ⟨HTO.out, HO.out⟩, if_pos (show (2 : Int) = 2 by decide)]; show (match linkD (hubD L) (f1, f2) with | none => _ | some d => _) = _; rw [hd])
          have HB3 := hid hb3
          clear hd hb3 CL
          go_wp2_with fail
          go_ret
          have hbw := HB1.out.trans (HB9.out.mono HB1.out.size)
          exact ⟨_, rfl, N, L, [], by rw [HQ.out]; exact ArrR.none (HubR.same HH.out HN0.out (hbw.trans (HB3.out.mono hbw.size))), by rw [HQ.out]⟩
        · have hbw := HB1.out.trans (HB9.out.mono HB1.out.size)
          have hRR := (HubR.same HH.out HN0.out hbw).trans HR3
          have hzl := HR3.is.lnk z (by simp)
          have hzf : LFit B z.d ∨ z.d = lnkNew := by
            have hm : (z.p, z.d) ∈ hubD (A ++ z :: B') := by simp [hubD]
            rcases linkD_mem hd hm with h1 | h1
            · obtain ⟨y, hy, hye⟩ := List.mem_map.1 h1
              injection hye with _ hye2
              exact .inl (by rw [← hye2]; exact HF0.out y hy)
            · exact .inr h1
          have hzu : z.d.upto + z.d.held.length ≤ 4611686018427387904 ∧ z.d.held.length < 999999 := by
            rcases hzf with h1 | h1
            · have h2 := h1.uh; have h3 := h1.hh; omega
            · rw [h1]; decide
          have HLS : Hid ((takeL z.d sq bs).length ≤ 900001) := hid (by
            have h1 := takeL_len z.d sq bs
            rcases hzf with h2 | h2
            · have h3 := h2.hh; omega
            · rw [h2] at h1 ⊢; exact Nat.le_trans h1 (by decide))
          have hr3 : ByteRow w3 ba bs := HR0.out.mutT hRR.mt HBL.out
          have hbl3 : ∀ b off, ba = some ⟨b, off, none⟩ → bs ≠ [] → ¬ fpL z.k b := fun b off e1 e2 e3 => by
            rcases hRR.fq b (.inr (.inr ⟨z, by simp, e3⟩)) with e4 | e4
            · exact HBL.out b off e1 e2 e4
            · rcases HR0.out with h1 | ⟨b', off', h1, h2, -⟩
              · exact e2 h1
              · rw [e1] at h1; cases h1; omega
          have CT := hid (ltake_any (bc := bc) hzl HR3.lt hsq hzu.1 hzu.2 hn hnl hr3 HX.out hbl3)
          have HQ : Hid (arriveR (a, b) (hubD L) ⟨2, (f1, f2), (t1, t2), sq, bs⟩ = (takeL z.d sq bs, hubD (A ++ ⟨z.p, z.k, takeD z.d sq bs⟩ :: B'))) := hid (by
            unfold arriveR
            rw [if_pos ⟨HTO.out, HO.out⟩, if_pos (show (2 : Int) = 2 by decide)]
            show (match linkD (hubD L) (f1, f2) with | none => _ | some H' => match look (f1, f2) H' with | none => _ | some d => _) = _
            rw [hd]
            simp only
            rw [← hp, look_hubD_at (by rw [hp]; exact hA)]
            simp only
            rw [ins_hubD (k := z.k) (by rw [hp]; exact hA)])
          have hb39 : Mut (fpH h r L) w9 w3 := HR3.mt
          have hh9 : ∀ j v, w9.cell? ⟨w.heap.size, j, none⟩ = some v → w3.cell? ⟨w.heap.size, j, none⟩ = some v := fun j v e => (hb39.cell (p := ⟨w.heap.size, j, none⟩) (by exact World.block_lt_of_cell? _ _ e) (by intro e2; have := HH.out.fplt _ e2; exact Nat.lt_irrefl _ this)).trans e
          have k1 := hh9 _ _ q1
          have k2 := hh9 _ _ q2
          have k5 := hh9 _ _ q5
          have k6 := hh9 _ _ q6
          have HR3' := hid HR3
          have HRR := hid hRR
          have hwn : w.heap.size < w3.heap.size := World.block_lt_of_cell? _ _ k1
          have HWN := hid hwn
          clear hbw hRR hzl hzf hzu hr3 hbl3 hd hb39 hh9 HR3 hp hA q0 q1 q2 q5 q6 CL hwn
          go_wp2_with fail
          refine CT.out.mono ?_
          rintro e w4 ⟨v, rfl, us, hT⟩
          have HT := hid hT
          obtain ⟨va, vc, hve, hvc⟩ := hT.row.sli
          obtain ⟨m, hm⟩ : ∃ m, us.length = m := ⟨_, rfl⟩
          rw [hm] at hve
          subst hve
          have hw1 : w.heap.size < W1.heap.size := by rw [← hW1]; simp
          have hw9 : w.heap.size < w9.heap.size := Nat.lt_of_lt_of_le hw1 HB9.out.size
          have hnf : ¬ fpL z.k w.heap.size := fun e => by
            rcases HR3'.out.fq _ (.inr (.inr ⟨z, by simp, e⟩)) with e | e
            · exact Nat.lt_irrefl _ (HH.out.fplt _ e)
            · omega
          have m1 := (hT.mt.cell (p := ⟨w.heap.size, 1, none⟩) (by exact HWN.out) hnf).trans k1
          have m2 := (hT.mt.cell (p := ⟨w.heap.size, 2, none⟩) (by exact HWN.out) hnf).trans k2
          have hz34 := hT.mt.size
          have HRT := hid (HubR.turn HR3'.out.is HR3'.out.lt hT.mt hT.is rfl (fun b e => e))
          have hml : (takeL z.d sq bs).length = m := by rw [← hT.it.1, hm]
          obtain ⟨ls, hls⟩ : ∃ ls, takeL z.d sq bs = ls := ⟨_, rfl⟩
          rw [hls] at hml hT HQ
          have hrow4 := hT.row
          have hit4 : ItemsAt w4 (fun b => N' b ∨ w4.heap.size ≤ b) us ls := hT.it.grow fun b e => e.elim (fun e => .inl (.inl e)) .inr
          have HROW := hid hrow4
          have HIT := hid hit4
          have HNV : Hid (∀ b, N' b → b < w4.heap.size) := hid fun b e => by have := HR3'.out.lt b e; omega
          rw [hls, hml] at HLS
          have HML := hid hml
          have HMU := hid hm
          clear hT HT hw9 hnf hz34 hml hrow4 hit4 hm k1 k2 k5 k6 CT
          go_wp2_with fail
          go_loopw [5, 46] (fun v i wr => ∃ (k : Nat) (xs : List (List Value)), i = .int .i64 k ∧ k ≤ m ∧ Hid (OwnK wr w4.heap.size 43 3 v xs) ∧ Hid (ElsAt wr (fun b => N' b ∨ w4.heap.size ≤ b) xs ((ls.take k).map (gotC (f1, f2)))) ∧ Hid (Below w4.heap.size w4 wr)) (fun _ i _ => m - (intOf i).toNat)
          case atStart => exact ⟨0, [], rfl, Nat.zero_le _, hid (OwnK.nil _ _ _ _), hid (ElsAt.nil _ _), hid (Below.refl _ _)⟩
          case round =>
            obtain ⟨k, xs, rfl, hkm, HOW, HEL, HBW⟩ := hrel
            by_cases hlt : k < m
            · have t1' : decide ((k : Int) < (m : Int)) = true := decide_eq_true (by omega)
              have t2' : decide (k < m) = true := decide_eq_true hlt
              obtain ⟨u, hu1, hu2⟩ := HIT.out.2 k (by rw [HML.out]; exact hlt)
              obtain ⟨ga, oa, ca, ea, hca, hga⟩ := HROW.out.at hu1
              injection ea with ea1 ea2 ea3
              subst ea1
              obtain ⟨ua, uc, rfl, -, -, -⟩ := id hu2
              have hkl : k < ls.length := by rw [HML.out]; exact hlt
              obtain ⟨lk, hlk⟩ : ∃ lk, ls[k]'hkl = lk := ⟨_, rfl⟩
              rw [hlk] at hca hu2
              have HTK : Hid (ls.take (k + 1) = ls.take k ++ [lk]) := hid (by rw [List.take_succ_eq_append_getElem hkl, hlk])
              obtain ⟨un, hun⟩ : ∃ un, lk.length = un := ⟨_, rfl⟩
              rw [hun] at hca hu2
              have r0 := cell_toB hca HBW.out
              have r1 := cell_toB m1 HBW.out
              have r2 := cell_toB m2 HBW.out
              have HU2 := hid hu2
              have HKM : Hid (k < m) := hid hlt
              have HXL : Hid (xs.length + 1 ≤ 1000000) := hid (by have h1 := HEL.out.1; rw [List.length_map, List.length_take] at h1; have := HLS.out; omega)
              obtain ⟨i0, hi, hz0, hz1, hz2⟩ := info_parts infoGot
              clear hca hga hu1 hu2 ea2 ea3 hun hkm hlt hkl hlk
              have hkm1 := HKM.out
              have hms := HLS.out
              go_wp2_with (at_builtin; refine wpList_appendE (el := [.int .u16 f1, .int .u32 f2, .slice ua un uc]) (b := wr.heap.size) Try.underlying37 hi hz0 hz1 hz2 rfl (by decide) (by decide) (HOW.out.ext ((Below.refl _ _).alloc (Nat.le_refl _) _)) rfl (els3 rfl rfl rfl) (cells3_new _ _ _ _ _) HXL.out (by have := HBW.out.size; simp; omega) rfl rfl rfl rfl ?_; intro v4 w5 hown5 hm5 hn5)
              have hmw5 : Mut (fun g => u5.ownBlock = some g) wr w5 := (Mut.of_below ((Below.refl _ _).alloc (Nat.le_refl _) _)).trans ⟨hm5.os, hm5.tape, hm5.output, hm5.size, hm5.block⟩
              go_roundw
              case rel =>
                refine ⟨k + 1, xs ++ [[.int .u16 f1, .int .u32 f2, .slice ua un uc]], by go_num, by have := HKM.out; omega, hid hown5, hid ?_, hid ?_⟩
                · rw [HTK.out, List.map_append]
                  have h1 : ItemAt wr (fun b => N' b ∨ w4.heap.size ≤ b) (.slice ua un uc) lk := HU2.out.mut (Mut.of_below (F := fun _ => False) HBW.out) fun _ _ e => e.elim
                  exact (HEL.out.mut hmw5 fun b _ e => .inr (HOW.out.blk e).1).snoc (q := [.int .u16 f1, .int .u32 f2]) (h1.mut hmw5 fun b _ e => .inr (HOW.out.blk e).1)
                · exact HBW.out.trans (hmw5.below HBW.out.size fun b e => (HOW.out.blk e).1)
              case measure => have := HKM.out; simp [intOf]; omega
            · have hkm2 : k = m := by omega
              have t1' : decide ((k : Int) < (m : Int)) = false := decide_eq_false (by omega)
              have t2' : decide (k < m) = false := decide_eq_false hlt
              have HKK := hid hkm2
              clear hkm2 hlt hkm
              go_wp2_with fail
              go_ret
              have hz := HWN.out
              have hR4 := HRR.out.trans HRT.out
              have hz34 := HRT.out.mt.size
              have hR5 := hR4.trans (HubR.same hR4.is hR4.lt HBW.out)
              rw [HQ.out]
              refine ⟨_, rfl, N', _, xs, ⟨hR5, HOW.out.mono (by omega), ?_, fun g e e2 => ?_⟩, rfl⟩
              · have h1 := HEL.out
                rw [HKK.out, ← HML.out, List.take_length] at h1
                exact h1.grow fun b e => .inl (e.imp id fun e => (HOW.out.blk e).1)
              · have h1 := (HOW.out.blk e).1
                have h2 := HNV.out g e2
                omega
      · have hk2b : (kd == 2) = false := by simpa using hk2
        by_cases hk3 : kd = 3
        · subst hk3
          rcases lookX (f1, f2) L with ⟨e1, e2⟩ | ⟨A, z, B', e1, e2, e3, e4⟩
          · have hlk : ∀ W, MapIs W r pidV ptrV (L.map fun x => (x.p, x.k.lb)) → (Instr.lookup 72 (.map (some r)) (.agg #[.int .u16 f1, .int .u32 f2]) true).run Try.prog W = .ok (.tuple #[.pointer none, .bool false]) W := fun W hM => by
              have := hM.lookup_ok keyPid Try.underlying72 (zeroLk W) (f1, f2)
              rw [e1] at this
              exact this
            have HQ : Hid (arriveR (a, b) (hubD L) ⟨3, (f1, f2), (t1, t2), sq, bs⟩ = ([], hubD L)) := hid (by unfold arriveR; rw [if_pos ⟨hto, ho⟩, if_neg (show ¬ (3 : Int) = 2 by decide), if_pos (show (3 : Int) = 3 by decide)]; show (match look (f1, f2) (hubD L) with | none => _ | some d => _) = _; rw [look_hubD e2])
            clear H H1 hN c0 c1 hb1 p3 p4 p5 p6 hto hr hbl hF hx ho e1 e2 hk2
            go_enter Try.func13, Try.ntmps13
            go_wp2_with fail
            refine wp_region_ext (w := W1) (Below.refl _ _) (by kernel_rfl) (by kernel_rfl) ?_
            repeat (go_big_quiet_step (exact det_ext CO _))
            refine wpQuiet_nil ?_
            rintro _ ⟨⟨w9, hb9⟩, rfl⟩
            have q0 := cell_toB p0 hb9
            have hb9' := hb9.drew
            have q1 := cell_toB p1 hb9'
            have q2 := cell_toB p2 hb9'
            have H9 := HH1.out.ext hb9'
            have c2 := H9.c2
            have hmp := H9.map
            have HB9 := hid hb9'
            clear H9 hb9 hb9' p0 p1 p2 g0 g1 g2 g3 g4 g5
            go_wp2_with fail
            go_region_held3 (fun W => MapIs W r pidV ptrV (L.map fun x => (x.p, x.k.lb)) ∧ W.cell? ⟨h, 2, none⟩ = some (.map (some r)) ∧ W.cell? ⟨w.heap.size, 1, none⟩ = some (.int .u16 f1) ∧ W.cell? ⟨w.heap.size, 2, none⟩ = some (.int .u32 f2)) (first | exact ⟨hmp, c2, q1, q2⟩) (fail)
            go_wp2_with fail
            go_ret
            exact ⟨_, rfl, N, L, [], by rw [HQ.out]; exact ArrR.none (HubR.same HH.out HN0.out (HB1.out.trans (HB9.out.mono HB1.out.size))), by rw [HQ.out]⟩
          · have hlk : ∀ W, MapIs W r pidV ptrV (L.map fun x => (x.p, x.k.lb)) → (Instr.lookup 72 (.map (some r)) (.agg #[.int .u16 f1, .int .u32 f2]) true).run Try.prog W = .ok (.tuple #[.pointer (some ⟨z.k.lb, 0, none⟩), .bool true]) W := fun W hM => by
              have := hM.lookup_ok keyPid Try.underlying72 (zeroLk W) (f1, f2)
              rw [e4] at this
              exact this
            have HQ : Hid (∀ k : LnkP, arriveR (a, b) (hubD L) ⟨3, (f1, f2), (t1, t2), sq, bs⟩ = ([], hubD (A ++ ⟨z.p, k, { z.d with snd := ackD z.d.snd sq }⟩ :: B'))) := hid fun k => by
              unfold arriveR
              rw [if_pos ⟨hto, ho⟩, if_neg (show ¬ (3 : Int) = 2 by decide), if_pos (show (3 : Int) = 3 by decide)]
              show (match look (f1, f2) (hubD L) with | none => _ | some d => _) = _
              rw [e1, ← e2, look_hubD_at (by rw [e2]; exact e3)]
              simp only
              rw [ins_hubD (k := k) (by rw [e2]; exact e3)]
            have HFZ : Hid (z.d.snd.base ≤ 4611686018427387904) := hid (by have := (hF z (by rw [e1]; simp)).bw; omega)
            have HE := hid e1
            clear H H1 hN c0 c1 hb1 p3 p4 p6 hto hr hbl hF hx ho e1 e2 e3 e4 hk2
            go_enter Try.func13, Try.ntmps13
            go_wp2_with fail
            refine wp_region_ext (w := W1) (Below.refl _ _) (by kernel_rfl) (by kernel_rfl) ?_
            repeat (go_big_quiet_step (exact det_ext CO _))
            refine wpQuiet_nil ?_
            rintro _ ⟨⟨w9, hb9⟩, rfl⟩
            have q0 := cell_toB p0 hb9
            have hb9' := hb9.drew
            have q1 := cell_toB p1 hb9'
            have q2 := cell_toB p2 hb9'
            have H9 := HH1.out.ext hb9'
            have c2 := H9.c2
            have hmp := H9.map
            have H9b := H9.ext (Below.refl _ _).drew
            have q5 := cell_toB p5 hb9'.drew
            rw [HE.out] at H9b
            have hzl := H9b.lnk z (by simp)
            have z0 := hzl.box.c0
            obtain ⟨us, hs⟩ := hzl.snd
            have CW := hid (wack_any hs hsq HFZ.out)
            have HB9 := hid hb9'.drew
            have HH9 := hid H9b
            have HZL := hid hzl
            clear H9 H9b hzl hs hb9 hb9' p0 p1 p2 p5 g0 g1 g2 g3 g4 g5
            go_wp2_with fail
            go_region_held3 (fun W => MapIs W r pidV ptrV (L.map fun x => (x.p, x.k.lb)) ∧ W.cell? ⟨h, 2, none⟩ = some (.map (some r)) ∧ W.cell? ⟨w.heap.size, 1, none⟩ = some (.int .u16 f1) ∧ W.cell? ⟨w.heap.size, 2, none⟩ = some (.int .u32 f2)) (first | exact ⟨hmp, c2, q1, q2⟩) (fail)
            go_wp2_with fail
            go_region_held3 (fun W => W.cell? ⟨z.k.lb, 0, none⟩ = some (.pointer (some ⟨z.k.sb, 0, none⟩)) ∧ W.cell? ⟨w.heap.size, 5, none⟩ = some (.int .u64 sq)) (first | exact ⟨z0, q5⟩ | exact ⟨k0, k5⟩) (first | (go_at_call 37; refine CW.out.mono ?_; rintro e w3 ⟨wv', us', rfl, hS3, hm3, hn3⟩; have k0 := (hm3.cell (p := ⟨z.k.lb, 0, none⟩) (by exact HZL.out.box.lt) (by exact HZL.out.d1)).trans z0; have k5 := (hm3.cell (p := ⟨w.heap.size, 5, none⟩) (by exact World.block_lt_of_cell? _ _ q5) (by intro e; have e : w.heap.size = z.k.sb := e; have := HH.out.fplt z.k.sb (by rw [HE.out]; exact .inr (.inr ⟨z, by simp, .inr (.inl rfl)⟩)); omega)).trans q5))
            go_wp2_with fail
            go_ret
            have hfs : ∀ b, b = z.k.sb → fpL z.k b := fun b e => .inr (.inl e)
            have hl3 := HZL.out.sent (hm3.mono fun b _ e => (show fpS z.k.sb z.k.wv b from .inl e)) (fun b e => e) (fun b e => .inl e) hS3 (fun g e => .inl (hn3 g e))
            have hbw := HB1.out.trans (HB9.out.mono HB1.out.size)
            have hR0 := HubR.same HH.out HN0.out hbw
            rw [HE.out] at hR0
            have hT := HubR.turn HH9.out (fun b e => Nat.lt_of_lt_of_le (HN0.out b e) hbw.size) (hm3.mono fun b _ e => hfs b e) hl3 rfl (fun b e => by
              rcases e with e | e | e | e
              · exact .inl e
              · exact .inr (.inl e)
              · exact .inr (.inr (.inl e))
              · exact .inr (.inr (.inr (hn3 b e))))
            rw [HQ.out { z.k with wv := wv' }]
            refine ⟨_, rfl, N, _, [], ?_, rfl⟩
            have hTT := hR0.trans hT
            rw [← HE.out] at hTT
            exact ArrR.none hTT
        · have hk3b : (kd == 3) = false := by simpa using hk3
          have HQ : Hid (arriveR (a, b) (hubD L) ⟨kd, (f1, f2), (t1, t2), sq, bs⟩ = ([], hubD L)) := hid (by unfold arriveR; rw [if_pos ⟨hto, ho⟩, if_neg hk2, if_neg hk3])
          clear H H1 hN c0 c1 hb1 p1 p2 p3 p4 p5 p6 hto hr hbl hF hx ho hk2 hk3
          go_enter Try.func13, Try.ntmps13
          go_wp2_with fail
          refine wp_region_ext (w := W1) (Below.refl _ _) (by kernel_rfl) (by kernel_rfl) ?_
          repeat (go_big_quiet_step (exact det_ext CO _))
          refine wpQuiet_nil ?_
          rintro _ ⟨⟨w9, hb9⟩, rfl⟩
          have q0 := cell_toB p0 hb9
          go_wp2_with fail
          go_ret
          exact ⟨_, rfl, N, L, [], by rw [HQ.out]; exact ArrR.none (HubR.same HH.out HN0.out (HB1.out.trans (hb9.mono HB1.out.size))), by rw [HQ.out]⟩
  · have hdt : decide ((t1, t2) = (a, b)) = false := decide_eq_false hto
    simp only [hdt, Bool.not_false] at hne
    have HQ : Hid (arriveR (a, b) (hubD L) ⟨kd, (f1, f2), (t1, t2), sq, bs⟩ = ([], hubD L)) := hid (by unfold arriveR; rw [if_neg fun e => hto e.1])
    have g0 := cell_extK c0
    have g1 := cell_extK c1
    have g3 := cell_extK p3
    have g4 := cell_extK p4
    clear H H1 hN c0 c1 hb1 p0 p1 p2 p3 p4 p5 p6 hto hdt hr hbl hF hx
    go_enter Try.func13, Try.ntmps13
    go_wp2_with fail
    refine wp_region_ext (w := W1) (Below.refl _ _) (by kernel_rfl) (by kernel_rfl) ?_
    repeat (go_big_quiet_step (fail))
    refine wpQuiet_nil ?_
    rintro _ ⟨⟨w9, hb9⟩, rfl⟩
    go_wp2_with fail
    go_ret
    exact ⟨_, rfl, N, L, [], by rw [HQ.out]; exact ArrR.none (HubR.same HH.out HN0.out (HB1.out.trans (hb9.mono HB1.out.size))), by rw [HQ.out]⟩
end Go.Proofs.Ytidohmpnefcpcaa


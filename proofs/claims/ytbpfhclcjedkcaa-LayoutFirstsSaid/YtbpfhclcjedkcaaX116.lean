/- Parts of the proof: X116. -/
import Derived.Deep.CutBlock
import Derived.Test.YtbpfhclcjedkcaaGLayoutFirsts8
namespace Go.Proofs.Ytbpfhclcjedkcaa
open Go.RowKit
/-! ### the reference's Build, of nobody who stays -/
def RefRes (V : View) (er : Int) (w : World) (e : Ending) (w' : World) : Prop := ∃ (qm ql qd : Option Addr) (km kl kd : Nat), e = .returned (.tuple #[.agg #[.int .u64 V.id, .slice qm V.ms.length km, .slice ql V.ls.length kl, .slice qd V.ds.length kd], .int .i64 er]) ∧ Stab w.heap.size w' qm ql qd V ∧ Below w.heap.size w w'
theorem RefRes.zero {V : View} {er k : Int} {w w' : World} (h : V = zeroV ∧ er = k) (hb : Below w.heap.size w w') : RefRes V er w (.returned (.tuple #[.agg #[.int .u64 0, .slice none 0 0, .slice none 0 0, .slice none 0 0], .int .i64 k])) w' := by
  obtain ⟨rfl, rfl⟩ := h
  exact ⟨none, none, none, 0, 0, 0, rfl, Stab.zero _ _, hb⟩
theorem pw_take_succ {l : List Pid} {k : Nat} (h : k < l.length) (h1 : (l.take k).Pairwise fun p q => p.1 ≠ q.1) (h2 : ∀ j, j < k → ∀ (hj : j < l.length) (h' : k < l.length), l[j].1 ≠ l[k].1) : (l.take (k + 1)).Pairwise fun p q => p.1 ≠ q.1 := by
  rw [List.take_succ_eq_append_getElem h, List.pairwise_append]
  refine ⟨h1, List.pairwise_singleton _ _, fun x hx y hy => ?_⟩
  rw [List.mem_singleton.1 hy]
  obtain ⟨j, hj, rfl⟩ := List.mem_iff_getElem.1 hx
  rw [List.length_take] at hj
  rw [List.getElem_take]
  exact h2 j (by omega) (by omega) h
theorem comeOk_pw {l : List Pid} : comeOk (([] : List Pid).map (·.1)) l = true ↔ l.Pairwise fun p q => p.1 ≠ q.1 := by
  rw [comeOk_iff]; simp
theorem build_9 {l : List Pid} {b : Bnd} {V : View} {er : Int} (hV : buildV 1 [] [] l b = (V, er)) {i j : Nat} (hij : i < j) (hi : i < l.length) (hj : j < l.length) (he : l[i].1 = l[j].1) : V = zeroV ∧ er = 9 := by
  have hc : comeOk (([] : List Pid).map (·.1)) l = false := by
    cases h : comeOk (([] : List Pid).map (·.1)) l
    · rfl
    · exact absurd he (List.pairwise_iff_getElem.1 (comeOk_pw.1 h) i j hi hj hij)
  unfold buildV at hV
  rw [if_pos hc] at hV
  cases hV; exact ⟨rfl, rfl⟩
theorem build_8 {l : List Pid} {b : Bnd} {V : View} {er : Int} (hV : buildV 1 [] [] l b = (V, er)) (hp : l.Pairwise fun p q => p.1 ≠ q.1) (h0 : l.length = 0) : V = zeroV ∧ er = 8 := by
  unfold buildV at hV
  rw [if_neg (by rw [comeOk_pw.2 hp]; decide), if_pos (by simpa using h0)] at hV
  cases hV; exact ⟨rfl, rfl⟩
theorem build_3 {l : List Pid} {b : Bnd} {V : View} {er : Int} (hV : buildV 1 [] [] l b = (V, er)) (hp : l.Pairwise fun p q => p.1 ≠ q.1) (h3 : 24 < l.length) : V = zeroV ∧ er = 3 := by
  unfold buildV at hV
  rw [if_neg (by rw [comeOk_pw.2 hp]; decide), if_neg (by simp; intro e; rw [e] at h3; simp at h3), if_pos (by simpa using h3)] at hV
  cases hV; exact ⟨rfl, rfl⟩
/-- the leaves, when all fit -/
def firstF (l : List Pid) (b : Bnd) : LL := fitV b (addAll [] l)
theorem build_0 {l : List Pid} {b : Bnd} {V : View} {er : Int} (hV : buildV 1 [] [] l b = (V, er)) (hp : l.Pairwise fun p q => p.1 ≠ q.1) (h0 : 0 < l.length) (h24 : l.length ≤ 24) : V = ⟨1, l, ordR l (firstF l b), leadersL l (heads (ordR l (firstF l b)))⟩ ∧ er = 0 := by
  unfold buildV at hV
  rw [if_neg (by rw [comeOk_pw.2 hp]; decide), if_neg (by simp; intro e; rw [e] at h0; simp at h0), if_neg (by simp; omega)] at hV
  cases hV; exact ⟨rfl, rfl⟩
theorem parts_come {l : List Pid} (hp : l.Pairwise fun p q => p.1 ≠ q.1) : Parts l (addAll [] l) := by
  have := (built_parts (stay := []) (come := l) (ls := []) Parts.none List.Pairwise.nil (comeOk_pw.2 hp)).2
  simpa using this
theorem parts_fit {l : List Pid} {b : Bnd} (hb : bchk b = true) (hp : l.Pairwise fun p q => p.1 ≠ q.1) (h24 : l.length ≤ 24) : Parts l (firstF l b) := by
  have h := parts_come hp
  obtain ⟨f1, f2, -⟩ := fitV_ok hb h.full (by have := h.perm.length_eq; rw [total_flat] at this; omega)
  exact ⟨h.nd, f1, f2.trans h.perm⟩
theorem BoolR.made (w : World) (n : Nat) : BoolR (w.alloc (.cells (madeCells #[.bool false] n) 4)) w.heap.size (List.replicate n false) := by
  refine ⟨by simp, fun j hj => ?_, fun j => ?_⟩
  · rw [List.length_replicate] at hj
    rw [World.cell?_alloc_mark]
    have e : (List.replicate n false).getD j false = false := by simp [List.getD, hj]
    rw [e]
    simp [madeCells, hj, Nat.mod_one]
  · simp
theorem step_appendLs {w : World} {o : Oper} {a : Go.Act} {K : Go.Act → World → Prop} {Q : Exit → Go.Act → World → Prop} {y : Nat → Option Bool} {sx x : Operand} {base : Nat} {v : Value} {cs : List Sl} {ls : LL} {s : Sl} {l : List Pid} {b c : Nat} (hw : Region.wanted o y = true) (h : LLs w base v cs ls) (h0 : w.cell? ⟨b, 0, none⟩ = some (encS s)) (hs : OwnP w base (encS s) l) (hv : ∀ g, blkS s = some g → v.ownBlock ≠ some g) (hc : ∀ u ∈ cs, ∀ g, blkS u = some g → blkS s ≠ some g)
    (hlen : ls.length + 1 ≤ 1099511627776) (hbase : base ≤ w.heap.size)
    (ho : o.op = .call { callee := .builtin .append, args := #[sx, x], argTypes := #[31, 31] }) (hsx : a.eval sx = v) (hx : a.eval x = .slice (some ⟨b, 0, none⟩) 1 c)
    (hk : ∀ v' w', LLs w' base v' (cs ++ [s]) (ls ++ [l]) → w.grownBy w' v.ownBlock → K (a.put o.dst v') w') : if Region.wanted o y = true then Oper.wp Try.prog o a w K Q else K (a.put o.dst undef) w := by
  rw [if_pos hw]
  obtain ⟨v', w', hr, h2, h3, h4⟩ := run_appendLs h h0 hs hv hc hlen hbase (c := c) o.type
  exact Lib.wp_append_run w sx x 31 31 ho _ _ hsx hx v' w' hr (hk v' w' h2 h3)
theorem pick_drop {l : List Pid} {fl : List Bool} {k : Nat} (h : k < l.length) (hf : fl.length = l.length) {p : Pid} (hp : p = l[k]) : pickL (l.drop k) (fl.drop k) = if fl.getD k false = true then p :: pickL (l.drop (k + 1)) (fl.drop (k + 1)) else pickL (l.drop (k + 1)) (fl.drop (k + 1)) := by
  have hk : k < fl.length := by omega
  rw [List.drop_eq_getElem_cons h, List.drop_eq_getElem_cons hk, ← hp]
  have e : fl.getD k false = fl[k] := by simp [List.getD, hk]
  rw [e]; rfl
/-- the state of the loop that lays the leaves in their order -/
structure TSt (w : World) (vb base : Nat) (a4 : Option Addr) (n c4 : Nat) (s : TS) (vl : Value) (csl : List Sl) : Prop where
  fl : BoolR w (vb + 1) s.fl
  bx : BoxV w vb (.int .u64 1) (.slice a4 n c4) vl (.slice none 0 0)
  ll : LLs w base vl csl s.lv
theorem TSt.ext {w w' : World} {vb base n c4 : Nat} {a4 : Option Addr} {s : TS} {vl : Value} {csl : List Sl} (h : TSt w vb base a4 n c4 s vl csl) (hb : Below w.heap.size w w') : TSt w' vb base a4 n c4 s vl csl :=
  ⟨h.fl.ext hb, h.bx.ext hb, h.ll.ext hb⟩
/-- a leaf more -/
theorem TSt.more {w8 w9 : World} {vb base n c4 k m7 c7 : Nat} {a4 a7 : Option Addr} {s : TS} {vl v9 : Value} {csl : List Sl} {lc : List Pid} (h : TSt w8 vb base a4 n c4 s vl csl) (hbase : base = vb + 2) (hll : LLs w9 base v9 (csl ++ [(a7, m7, c7)]) (s.lv ++ [lc])) (hg : w8.grownBy w9 vl.ownBlock) (hk : k < s.fl.length) :
    TSt ((w9.setCell ⟨vb, 2, none⟩ v9).setCell ⟨vb + 1, k, none⟩ (.bool true)) vb base a4 n c4 ⟨s.lv ++ [lc], s.fl.set k true, s.ct + 1⟩ v9 (csl ++ [(a7, m7, c7)]) ∧ BoxV w9 vb (.int .u64 1) (.slice a4 n c4) vl (.slice none 0 0) ∧ BoolR (w9.setCell ⟨vb, 2, none⟩ v9) (vb + 1) s.fl ∧ Mut (fun p => vl.ownBlock = some p) w8 w9 := by
  have hm := grown_mutS hg
  have hblk : ∀ p, vl.ownBlock = some p → vb + 2 ≤ p := fun p hp => by rw [← hbase]; exact (h.ll.blk hp).1
  have hb9 := h.bx.mutT hm (fun e => by have := hblk _ e; omega)
  have hf9 := h.fl.mutN hm (fun e => by have := hblk _ e; omega)
  have hs1 : Mut (fun p => p = vb) w9 (w9.setCell ⟨vb, 2, none⟩ v9) := mut1
  have hs2 : Mut (fun p => p = vb + 1) (w9.setCell ⟨vb, 2, none⟩ v9) ((w9.setCell ⟨vb, 2, none⟩ v9).setCell ⟨vb + 1, k, none⟩ (.bool true)) := mut1
  have hf10 := hf9.mutN hs1 (fun e => by omega)
  refine ⟨⟨hf10.set hk true, (hb9.set2 v9).mutT hs2 (fun e => by omega), (hll.mutT hs1 (fun p e => by omega)).mutT hs2 (fun p e => by omega)⟩, hb9, hf10, hm⟩
theorem OwnP.capP {w : World} {base n c : Nat} {a : Option Addr} {xs : List Pid} (h : OwnP w base (.slice a n c) xs) : xs.length ≤ c := by
  obtain ⟨a', c', e, -, hc⟩ := h.rowc
  injection e with _ _ e3
  rw [e3]; exact hc
theorem join_put {w4 wr w10 : World} {g j n1 m10 c' : Nat} {cs : List Sl} {L : LL} {l' : List Pid} {a10 : Option Addr} {c10 B : Nat} {s : Sl} (hb : Below w4.heap.size w4 wr) (hown : LLs wr w4.heap.size (.slice (some ⟨g, 0, none⟩) n1 c') cs L) (hn1 : L.length = n1) (hj : j < L.length) (hs : cs[j]? = some s) (hb10 : Below wr.heap.size wr w10) (ho : OwnP w10 B (.slice a10 m10 c10) l') (hbk : ∀ p, blkS (a10, m10, c10) = some p → wr.heap.size ≤ p) :
    LLs (w10.setCell ⟨g, j, none⟩ (.slice a10 m10 c10)) w4.heap.size (.slice (some ⟨g, 0, none⟩) n1 c') (cs.set j (a10, m10, c10)) (L.set j l') := by
  have s1 := hb.size
  have ho' : OwnP w10 w4.heap.size (encS (a10, m10, c10)) l' := by
    refine ⟨ho.1, ?_⟩
    rcases ho.2 with hn | ⟨p, cap, cur, e, hbb, rest⟩
    · exact .inl hn
    · have e : Value.slice a10 m10 c10 = _ := e
      have hp : blkS (a10, m10, c10) = some p := by
        injection e with e1
        rw [e1]; rfl
      exact .inr ⟨p, cap, cur, e, by have := hbk p hp; omega, rest⟩
  have hput := (by rw [← hn1] at hown; exact hown.put (s' := (a10, m10, c10)) (l' := l') hj hs (Mut.of_below hb10) ho' (fun p hp => .inr (hbk p hp)))
  rw [hn1] at hput
  exact hput
theorem part_facts {w4 wr w6 w7 w8 : World} {g j n1 n2 q c' : Nat} {cs : List Sl} {L : LL} {l1 : List Pid} {a7 a8 sa : Option Addr} {c7 c8 m1 ks : Nat} (hb : Below w4.heap.size w4 wr) (hb6 : Below wr.heap.size wr w6) (hb67 : Below w6.heap.size w6 w7) (hb78 : Below w7.heap.size w7 w8) (hown : LLs wr w4.heap.size (.slice (some ⟨g, 0, none⟩) n1 c') cs L) (hn1 : L.length = n1) (hj : j < L.length) (hs : cs[j]? = some (sa, m1, ks)) (ho7 : OwnP w7 w6.heap.size (.slice a7 n2 c7) (l1.drop q)) (ho8 : OwnP w8 w7.heap.size (.slice a8 q c8) (l1.take q)) (hbk7 : ∀ p, blkS (a7, n2, c7) = some p → w6.heap.size ≤ p ∧ p < w7.heap.size) (hbk8 : ∀ p, blkS (a8, q, c8) = some p → w7.heap.size ≤ p ∧ p < w8.heap.size) :
    Hid (LLs ((w8.setCell ⟨g, j, none⟩ (.slice a8 q c8)).alloc (.cells #[.slice a7 n2 c7] 30)) w4.heap.size (.slice (some ⟨g, 0, none⟩) n1 c') (cs.set j (a8, q, c8)) (L.set j (l1.take q))) ∧ Hid (((w8.setCell ⟨g, j, none⟩ (.slice a8 q c8)).alloc (.cells #[.slice a7 n2 c7] 30)).cell? ⟨w8.heap.size, 0, none⟩ = some (encS (a7, n2, c7))) ∧ Hid (OwnP ((w8.setCell ⟨g, j, none⟩ (.slice a8 q c8)).alloc (.cells #[.slice a7 n2 c7] 30)) w4.heap.size (encS (a7, n2, c7)) (l1.drop q)) ∧ Hid (∀ g', blkS (a7, n2, c7) = some g' → (Value.slice (some ⟨g, 0, none⟩) n1 c').ownBlock ≠ some g') ∧ Hid (∀ u ∈ cs.set j (a8, q, c8), ∀ g, blkS u = some g → blkS (a7, n2, c7) ≠ some g) ∧ Hid (w4.heap.size ≤ ((w8.setCell ⟨g, j, none⟩ (.slice a8 q c8)).alloc (.cells #[.slice a7 n2 c7] 30)).heap.size) ∧ Hid (Below w4.heap.size w4 ((w8.setCell ⟨g, j, none⟩ (.slice a8 q c8)).alloc (.cells #[.slice a7 n2 c7] 30))) := by
  have s1 := hb.size
  have s2 := hb6.size
  have s3 := hb67.size
  have s4 := hb78.size
  obtain ⟨hbg, hgw⟩ := hown.blk (g := g) rfl
  have hb8 : Below wr.heap.size wr w8 := hb6.trans ((hb67.trans (hb78.mono s3)).mono s2)
  have hput := (by rw [← hn1] at hown; exact hown.put (s' := (a8, q, c8)) (l' := l1.take q) hj hs (Mut.of_below hb8) (OwnP.mono ho8 (by omega)) (fun p hp => .inr (by have := (hbk8 p hp).1; omega)))
  rw [hn1] at hput
  have hput : LLs (w8.setCell ⟨g, j, none⟩ (.slice a8 q c8)) w4.heap.size (.slice (some ⟨g, 0, none⟩) n1 c') (cs.set j (a8, q, c8)) (L.set j (l1.take q)) := hput
  have hA : Below (w8.setCell ⟨g, j, none⟩ (.slice a8 q c8)).heap.size (w8.setCell ⟨g, j, none⟩ (.slice a8 q c8)) ((w8.setCell ⟨g, j, none⟩ (.slice a8 q c8)).alloc (.cells #[.slice a7 n2 c7] 30)) := (Below.refl _ _).alloc (Nat.le_refl _) _
  have hset : Mut (fun k => k = g) w8 (w8.setCell ⟨g, j, none⟩ (.slice a8 q c8)) := mut1
  have hbs : Below w4.heap.size w4 (w8.setCell ⟨g, j, none⟩ (.slice a8 q c8)) := below_set (hb.trans (hb8.mono s1)) hbg
  refine ⟨hput.ext hA, ?_, ?_, ?_, ?_, ?_, hbs.trans (hA.mono hbs.size)⟩
  · have h : ∀ W : World, (W.alloc (.cells #[.slice a7 n2 c7] 30)).cell? ⟨W.heap.size, 0, none⟩ = some (encS (a7, n2, c7)) := fun W => by simp [encS]
    have h2 := h (w8.setCell ⟨g, j, none⟩ (.slice a8 q c8))
    have hz : (w8.setCell ⟨g, j, none⟩ (.slice a8 q c8)).heap.size = w8.heap.size := by simp
    rw [hz] at h2
    exact h2
  · refine OwnP.mono (OwnP.ext ((OwnP.ext ho7 hb78).mutN hset (fun p hp e => ?_)) hA) (by omega)
    have hp : blkS (a7, n2, c7) = some p := by rw [← hp]; exact (own_encS (a7, n2, c7)).symm
    have := (hbk7 p hp).1
    have e : p = g := e
    omega
  · intro p hp e
    have := (hbk7 p hp).1
    have e : g = p := by simpa [Value.ownBlock] using e
    omega
  · intro u hu p hp e
    have h7 := hbk7 p e
    rcases List.mem_or_eq_of_mem_set hu with hu | rfl
    · have := (hown.elB hu hp).2
      omega
    · have := (hbk8 p hp).1
      omega
  · exact Nat.le_trans hbs.size hA.size
set_option maxRecDepth 100000 in
set_option maxHeartbeats 25600000 in
theorem refBuild_any {w : World} {l : List Pid} {b : Bnd} {a : Option Addr} {c n : Nat} {V : View} {er : Int} (hV : Hid (buildV 1 [] [] l b = (V, er))) (hn : Hid (l.length = n)) (hnl : n ≤ 1000) (hrow : PidRow w a l) (hbc : bchk b = true) :
    Calls Try.prog 168 #[.int .u64 1, .slice none 0 0, .slice none 0 0, .slice a n c, .agg #[.int .i64 b.least, .int .i64 b.most, .int .i64 b.tmo]] w fun e w' => RefRes V er w e w' := by
  obtain ⟨W2, hW2⟩ : ∃ W2, ((w.alloc (.cells #[.int .i64 b.least, .int .i64 b.most, .int .i64 b.tmo] 117)).alloc (.cells #[.int .u64 0, .slice none 0 0, .slice none 0 0, .slice none 0 0] 33)) = W2 := ⟨_, rfl⟩
  have hT : TwoBox W2 w b := by rw [← hW2]; exact TwoBox.made w b
  have hb21 : Below W2.heap.size W2 (W2.alloc (.cells #[] 26)) := (Below.refl _ _).alloc (Nat.le_refl _) _
  have HO1 : Hid (OwnP (W2.alloc (.cells #[] 26)) W2.heap.size (.slice (some ⟨W2.heap.size, 0, none⟩) 0 0) []) := hid (World.ownsRow_made (w := W2) #[] 0 (Nat.le_refl _) (by unfold maxLen; omega) (by simp))
  have HZ1 := hid hb21.size
  have HB1 := hid hb21
  have HT := hid hT
  have HROW := hid hrow
  have HBC := hid hbc
  have HNL := hid hnl
  clear hT hb21 hrow hbc
  go_enter Try.func168, Try.ntmps168
  go_wp2_with (first
    | (at_builtin; refine wpList_appendPat HO1.out (ad := none) (ys := []) (.inl rfl) (hid rfl) (by simp) HZ1.out rfl rfl rfl rfl ?_; intro v3 w3 hown3 hg3 hat3; have HB3 := hid (HB1.out.grown hg3 HZ1.out (fun g hg => (HO1.out.blk hg).1)); have HO3 := hid hown3; have HR3 := hid ((HROW.out.ext HT.out.bl).ext HB3.out); clear hown3 hg3 hat3)
    | (at_builtin; refine wpList_appendPat HO3.out HR3.out hn (by have := HNL.out; simp; omega) HB3.out.size rfl rfl rfl rfl ?_; intro v4 w4 hown4 hg4 hat4; have HB4 := hid (HB3.out.grown hg4 HB3.out.size (fun g hg => (HO3.out.blk hg).1)); simp only [List.nil_append] at hown4; obtain ⟨a4, c4, e4, hr4, hbk4⟩ := hown4.row; rw [hn.out] at e4; have HC4 : Hid (n ≤ c4) := hid (by rw [e4] at hown4; have := hown4.capP; rw [hn.out] at this; exact this); subst e4; have HR4 := hid hr4; have HK4 := hid hbk4; clear hown4 hg4 hat4 hr4 hbk4))
  have HPR : Hid (∀ X, Below w4.heap.size w4 X → PidRow X a4 l ∧ PidRow X a l ∧ BndBox X w.heap.size b ∧ BoxV X (w.heap.size + 1) (.int .u64 0) (.slice none 0 0) (.slice none 0 0) (.slice none 0 0)) := hid fun X h => ⟨HR4.out.ext h, ((HROW.out.ext HT.out.bl).ext HB4.out).ext h, (HT.out.bx.ext HB4.out HT.out.bx.lt).ext h (by have := HT.out.bx.lt; have := HB4.out.size; omega), (HT.out.vx.ext HB4.out).ext h⟩
  have HW4 : Hid (Below w.heap.size w w4) := hid (HT.out.bl.trans (HB4.out.mono HT.out.bl.size))
  have HZ4 : Hid (w.heap.size + 1 < w4.heap.size) := hid (by have := HT.out.sz; have := HB4.out.size; omega)
  have HBK4 : Hid (∀ p off, a4 = some ⟨p, off, none⟩ → w.heap.size + 1 < p) := hid fun p off e => by have := HK4.out p off e; have := HT.out.sz; omega
  clear hW2 HO1 HZ1 HB1 HT HROW HB3 HO3 HR3 HB4 HR4 HK4
  go_loopw [13] (fun i wr => ∃ k : Nat, i = .int .i64 k ∧ k ≤ n ∧ Hid ((l.take k).Pairwise fun p q => p.1 ≠ q.1) ∧ Below w4.heap.size w4 wr) (fun i _ => n - (intOf i).toNat)
  case atStart => exact ⟨0, rfl, Nat.zero_le _, hid (by simp), Below.refl _ _⟩
  case round =>
    obtain ⟨k, rfl, hk, hpw, hb⟩ := hrel
    by_cases hlt : k < n
    · have HB := hid hb
      clear hb
      go_wp2
      go_loopw [14] (fun j wx => ∃ q : Nat, j = .int .i64 q ∧ q ≤ k ∧ Hid (∀ j, j < q → ∀ (h : j < l.length) (h' : k < l.length), l[j].1 ≠ l[k].1) ∧ Below w4.heap.size w4 wx) (fun j _ => k - (intOf j).toNat)
      case atStart => exact ⟨0, rfl, Nat.zero_le _, hid (fun j hj => by omega), HB.out⟩
      case round =>
        obtain ⟨q, rfl, hq, hne, hb⟩ := hrel
        by_cases hlq : q < k
        · have hkl : k < l.length := by rw [hn.out]; exact hlt
          have hql : q < l.length := by omega
          obtain ⟨pb, po, x, y, e4, hx, p0, p1⟩ := (HPR.out _ hb).1.at (Below.refl _ _) rfl hkl
          obtain ⟨pb', po', x', y', e4', hx', p0', p1'⟩ := (HPR.out _ hb).1.at (Below.refl _ _) rfl hql
          have ee := e4.symm.trans e4'
          cases ee
          clear e4'
          subst e4
          have m0 := cell_extw p0
          have m0' := cell_extw p0'
          have HB2 := hid hb
          have HX : Hid (x = l[k].1) := hid (by rw [← hx])
          have HX' : Hid (x' = l[q].1) := hid (by rw [← hx'])
          clear hx hx' p0 p1 p0' p1' hb
          by_cases hxx : x' = x
          · have u1 : (x' == x) = true := by simp [hxx]
            have u2 : decide (x' = x) = true := decide_eq_true hxx
            have HXX := hid hxx
            clear hxx
            go_wp2
            refine wp_region_ext (Below.refl _ _) (by kernel_rfl) (by kernel_rfl) ?_
            repeat (go_big_quiet_step (fail))
            refine wpQuiet_nil ?_
            rintro w9 ⟨⟨_, hb9⟩, rfl⟩
            have HB9 := hid (HB2.out.trans (hb9.mono HB2.out.size))
            clear hb9 m0 m0'
            obtain ⟨d0, d1, d2, d3, g0, g1, g2, g3⟩ := (HPR.out _ HB9.out).2.2.2
            have DD := hid ((HPR.out _ HB9.out).2.2.2.put (.int .u64 0) (.slice none 0 0) (.slice none 0 0) (.slice none 0 0))
            have HRB := hid (below_put4 (b := w.heap.size + 1) (u0 := .int .u64 0) (u1 := .slice none 0 0) (u2 := .slice none 0 0) (u3 := .slice none 0 0) (HW4.out.trans (HB9.out.mono HW4.out.size)) (by omega))
            have HVE := hid (build_9 hV.out hlq hql hkl (by rw [← HX.out, ← HX'.out]; exact HXX.out))
            go_wp2_with fail
            obtain ⟨q0, q1, q2, q3, -, -, -, -⟩ := DD.out
            exact bodyPost_ret (v := .tuple #[.agg #[.int .u64 0, .slice none 0 0, .slice none 0 0, .slice none 0 0], .int .i64 9]) (by simp [results, Try.results168, go_sem, q0, q1, q2, q3]) rfl (RefRes.zero HVE.out HRB.out)
          · have u1 : (x' == x) = false := by simp [hxx]
            have u2 : decide (x' = x) = false := decide_eq_false hxx
            have HXX := hid hxx
            clear hxx
            go_wp2
            refine wp_region_ext (Below.refl _ _) (by kernel_rfl) (by kernel_rfl) ?_
            repeat (go_big_quiet_step (fail))
            refine wpQuiet_nil ?_
            rintro w9 ⟨⟨_, hb9⟩, rfl⟩
            have HB9 := hid (HB2.out.trans (hb9.mono HB2.out.size))
            clear hb9 m0 m0'
            go_wp2
            go_roundw
            case rel => exact ⟨q + 1, by go_num, by omega, hid (fun j hj h h' => by
              by_cases hjq : j < q
              · exact hne.out j hjq h h'
              · have : j = q := by omega
                subst this
                rw [← HX.out, ← HX'.out]; exact HXX.out), HB9.out⟩
            case measure => simp [intOf]; omega
        · have HB2 := hid hb
          have hqk : q = k := by omega
          subst hqk
          clear hb
          go_wp2
          go_roundw
          case rel => exact ⟨q + 1, by go_num, by omega, hid (pw_take_succ (by rw [hn.out]; exact hlt) hpw.out hne.out), HB2.out⟩
          case measure => simp [intOf]; omega
    · have hkn : k = n := by omega
      rw [hkn] at hpw
      clear hlt hk
      have hpwl : l.Pairwise fun p q => p.1 ≠ q.1 := by
        have := hpw.out
        rw [List.take_of_length_le (by rw [hn.out]; omega)] at this
        exact this
      have HPW := hid hpwl
      have HB := hid hb
      clear hb hpwl hpw
      have hkn2 := hkn.symm
      clear hkn
      subst hkn2
      by_cases h0 : n = 0
      · have u1 : ((n : Int) == 0) = true := by simp [h0]
        have u2 : decide (n = 0) = true := decide_eq_true h0
        have HN0 := hid h0
        clear h0
        obtain ⟨d0, d1, d2, d3, g0, g1, g2, g3⟩ := (HPR.out _ HB.out).2.2.2
        have DD := hid ((HPR.out _ HB.out).2.2.2.put (.int .u64 0) (.slice none 0 0) (.slice none 0 0) (.slice none 0 0))
        have HRB := hid (below_put4 (b := w.heap.size + 1) (u0 := .int .u64 0) (u1 := .slice none 0 0) (u2 := .slice none 0 0) (u3 := .slice none 0 0) (HW4.out.trans (HB.out.mono HW4.out.size)) (by omega))
        have HVE := hid (build_8 hV.out HPW.out (by rw [hn.out]; exact HN0.out))
        go_wp2_with fail
        obtain ⟨q0, q1, q2, q3, -, -, -, -⟩ := DD.out
        exact bodyPost_ret (v := .tuple #[.agg #[.int .u64 0, .slice none 0 0, .slice none 0 0, .slice none 0 0], .int .i64 8]) (by simp [results, Try.results168, go_sem, q0, q1, q2, q3]) rfl (RefRes.zero HVE.out HRB.out)
      have u1 : ((n : Int) == 0) = false := by simp [h0]
      have u2 : decide (n = 0) = false := decide_eq_false h0
      by_cases h24 : 24 < n
      · have u3 : decide ((n : Int) > 24) = true := decide_eq_true (by omega)
        have u4 : decide ((24 : Int) < (n : Int)) = true := decide_eq_true (by omega)
        have HN24 := hid h24
        clear h24
        obtain ⟨d0, d1, d2, d3, g0, g1, g2, g3⟩ := (HPR.out _ HB.out).2.2.2
        have DD := hid ((HPR.out _ HB.out).2.2.2.put (.int .u64 0) (.slice none 0 0) (.slice none 0 0) (.slice none 0 0))
        have HRB := hid (below_put4 (b := w.heap.size + 1) (u0 := .int .u64 0) (u1 := .slice none 0 0) (u2 := .slice none 0 0) (u3 := .slice none 0 0) (HW4.out.trans (HB.out.mono HW4.out.size)) (by omega))
        have HVE := hid (build_3 hV.out HPW.out (by rw [hn.out]; exact HN24.out))
        go_wp2_with fail
        obtain ⟨q0, q1, q2, q3, -, -, -, -⟩ := DD.out
        exact bodyPost_ret (v := .tuple #[.agg #[.int .u64 0, .slice none 0 0, .slice none 0 0, .slice none 0 0], .int .i64 3]) (by simp [results, Try.results168, go_sem, q0, q1, q2, q3]) rfl (RefRes.zero HVE.out HRB.out)
      have u3 : decide ((n : Int) > 24) = false := decide_eq_false (by omega)
      have u4 : decide ((24 : Int) < (n : Int)) = false := decide_eq_false (by omega)
      have HN0 : Hid (0 < n) := hid (by omega)
      have HN24 : Hid (n ≤ 24) := hid (by omega)
      clear h0 h24
      go_wp2
      clear u1 u2 u3 u4
      go_loopw [15, 16] (fun v i wx => v = .slice none 0 0 ∧ i = .int .i64 0 ∧ Below w4.heap.size w4 wx) (fun _ _ _ => 0)
      case atStart => exact ⟨rfl, rfl, HB.out⟩
      case round =>
      obtain ⟨rfl, rfl, hb⟩ := hrel
      have HBC2 := hid hb
      clear hb HB
      go_wp2
      go_loopw [15, 17] (fun v i wx => ∃ (k : Nat) (cs : List Sl), i = .int .i64 k ∧ k ≤ n ∧ LLs wx w4.heap.size v cs (addAll [] (l.take k)) ∧ Below w4.heap.size w4 wx) (fun _ i _ => n - (intOf i).toNat)
      case atStart => exact ⟨0, [], rfl, Nat.zero_le _, LLs.nil _ _, HBC2.out⟩
      case round =>
      obtain ⟨k, cs, rfl, hk, hown, hb⟩ := hrel
      by_cases hlt : k < n
      · have hkl : k < l.length := by rw [hn.out]; exact hlt
        obtain ⟨pb, po, e4, hpb, hpc⟩ := (HPR.out w4 (Below.refl _ _)).2.1.get (by omega)
        have hpc := hpc k hkl
        obtain ⟨x, y, hxy⟩ : ∃ x y, (x, y) = l[k] := ⟨_, _, rfl⟩
        rw [← hxy] at hpc
        have hsucc := addAll_succ (ls := []) hkl hxy
        subst e4
        have HPC : Hid (∀ X, Below w4.heap.size w4 X → X.cell? ⟨pb, po + k * 2, none⟩ = some (.int .u16 x) ∧ X.cell? ⟨pb, po + k * 2 + 1, none⟩ = some (.int .u32 y)) := hid fun X h => ⟨cell_to hpc.1 h, cell_to hpc.2 h⟩
        obtain ⟨L, hL⟩ : ∃ L, addAll [] (l.take k) = L := ⟨_, rfl⟩
        have hLok := addAll_ok (l.take k) (ls := []) (fun _ h => by cases h)
        rw [hL] at hown hsucc hLok
        have hLt : total L ≤ 24 := by
          have := hLok.2.length_eq
          rw [total_flat] at this
          simp at this
          have := HN24.out
          omega
        have hLn : L.length ≤ 24 := by have := full_len hLok.1; omega
        have hLl : ∀ y1 ∈ L, y1.length ≤ 24 := fun y1 h => by have := lens_total L y1 h; omega
        obtain ⟨n1, hn1⟩ : ∃ n1, L.length = n1 := ⟨_, rfl⟩
        obtain ⟨a', c', he, hrowL⟩ := hown.row
        rw [hn1] at he hLn
        have C6 : Hid (∀ F, fewL L (-1) = F → Calls Try.prog 220 #[.slice a' n1 c', .int .i64 (-1)] wr fun e w' => e = .returned (.int .i64 F) ∧ Below wr.heap.size wr w') := hid fun F hF => by
          have := fewestR_any (c := c') (but := -1) (by omega) hrowL
          rw [hn1, hF] at this
          exact this
        subst he
        have HB := hid hb
        have HOWN := hid hown
        clear hpc hxy hL hLok hLt hrowL hb hown
        rcases few_cases L with ⟨hLn0, hf⟩ | ⟨j, hj, hf⟩
        · subst hLn0
          have hn10 : n1 = 0 := hn1.symm
          subst hn10
          have C7 := hid (C6.out _ hf)
          have v1 : decide ((-1 : Int) < 0) = true := by decide
          rw [addL_none] at hsucc
          have HSC := hid hsucc
          clear C6 hsucc hf hLl hn1 hLn
          go_wp2_with fail
          (with_reducible refine C7.out.mono ?_)
          rintro e w6 ⟨rfl, hb6⟩
          have HBW6 := hid (HB.out.trans (hb6.mono HB.out.size))
          have hbA : Below w6.heap.size w6 (w6.alloc (.cells #[.slice none 0 0] 30)) := (Below.refl _ _).alloc (Nat.le_refl _) _
          have HOA := hid ((HOWN.out.ext hb6).ext hbA)
          have HCA : Hid ((w6.alloc (.cells #[.slice none 0 0] 30)).cell? ⟨w6.heap.size, 0, none⟩ = some (encS (none, 0, 0))) := hid (by simp [encS])
          have HZA : Hid (w4.heap.size ≤ (w6.alloc (.cells #[.slice none 0 0] 30)).heap.size) := hid (by have := HBW6.out.size; simp; omega)
          have HBA := hid (HBW6.out.trans (hbA.mono HBW6.out.size))
          clear hb6 hbA C7 v1
          have v1 : decide ((-1 : Int) < 0) = true := by decide
          go_wp2_with (at_builtin; refine wpList_appendLs (s := (none, 0, 0)) (l := []) HOA.out HCA.out (OwnP.nil _ _) (fun _ h => by cases h) (fun _ _ _ _ h => by cases h) (by simp) HZA.out rfl rfl rfl rfl ?_; intro v8 w8 hls8 hg8 hat8; have HB8 := hid (HBA.out.grown hg8 HZA.out (fun g hg => (HOA.out.blk hg).1)); obtain ⟨g, cap, e8, hcap8⟩ := hls8.lit (by simp); subst e8; have HL8 := hid hls8; clear hls8 hg8 hat8 hcap8)
          obtain ⟨csx, hcsx⟩ : ∃ c, cs ++ [((none, 0, 0) : Sl)] = c := ⟨_, rfl⟩
          obtain ⟨L1, hL1⟩ : ∃ c, ([] : LL) ++ [[]] = c := ⟨_, rfl⟩
          have hll := HL8.out
          rw [hcsx, hL1] at hll
          have hlen1 : L1.length = 1 := by rw [← hL1]; rfl
          have HLL : Hid (LLs w8 w4.heap.size (.slice (some ⟨g, 0, none⟩) 1 cap) csx L1) := hid (by rw [hlen1] at hll; exact hll)
          have HSUC : Hid (∀ y1, L1[0]? = some y1 → addAll [] (l.take (k + 1)) = L1.set 0 (y1 ++ [(x, y)])) := hid fun y1 h => by
            rw [HSC.out, ← hL1]
            rw [← hL1] at h
            have h : some ([] : List Pid) = some y1 := h
            cases h
            rfl
          have HLEN : Hid (∀ y1 ∈ L1, y1.length ≤ 24) := hid fun y1 h => by rw [← hL1] at h; simp at h; subst h; simp
          have HBW := HB8
          clear HL8 HB8 hll hcsx hL1 HOA HCA HZA HBA HSC HOWN v1
          obtain ⟨a2, m2, c2, yl, hy, hyl, hcell, hownl, hgw, hap⟩ := app_put (j := 0) (p := (x, y)) HLL.out hlen1 (by omega) (Keeps.refl w8 (.slice (some ⟨g, 0, none⟩) (1 : Nat) cap) csx)
          have hbw7 : Below w8.heap.size w8 (w8.drew.alloc (.cells #[.int .u16 x, .int .u32 y] 26)) := (Below.refl _ _).drew.alloc (by simp) _
          have hcell7 : (w8.drew.alloc (.cells #[.int .u16 x, .int .u32 y] 26)).cell? ⟨g, 0, none⟩ = some (.slice a2 m2 c2) := (hbw7.cell (by exact hgw)).trans hcell
          have hcella : (w8.alloc (.cells #[.int .u16 x, .int .u32 y] 26)).cell? ⟨g, 0, none⟩ = some (.slice a2 m2 c2) := (((Below.refl _ _).alloc (Nat.le_refl _) _ : Below w8.heap.size w8 _).cell (by exact hgw)).trans hcell
          have hcelld : w8.drew.cell? ⟨g, 0, none⟩ = some (.slice a2 m2 c2) := hcell
          have HO7 := hid (hownl.ext hbw7)
          have HR7 : Hid (PidRow (w8.drew.alloc (.cells #[.int .u16 x, .int .u32 y] 26)) (some ⟨w8.heap.size, 0, none⟩) [(x, y)]) := hid (PidRow.one w8.drew x y)
          have HLN : Hid (yl.length + [(x, y)].length ≤ 1099511627776) := hid (by have := HLEN.out yl (List.mem_of_getElem? hy); simp; omega)
          have HB7 : Hid (w4.heap.size ≤ (w8.drew.alloc (.cells #[.int .u16 x, .int .u32 y] 26)).heap.size) := hid (by have := HBW.out.size; simp; omega)
          have HAP := hid hap
          have HBW7 := hid hbw7
          have HBQ : Hid (pb < w8.heap.size ∧ ¬ inLL (.slice (some ⟨g, 0, none⟩) (1 : Nat) cap) csx pb) := hid ⟨by have := HBW.out.size; omega, fun e => by have := (HLL.out.inB e).1; omega⟩
          have HX0 : Hid (w8.drew.cell? ⟨pb, po + k * 2, none⟩ = some (.int .u16 x)) := hid (HPC.out _ HBW.out).1
          have HX1 : Hid (w8.drew.cell? ⟨pb, po + k * 2 + 1, none⟩ = some (.int .u32 y)) := hid (HPC.out _ HBW.out).2
          have HS7 : Hid ((w8.drew.alloc (.cells #[.int .u16 x, .int .u32 y] 26)).cell? ⟨pb, po + k * 2, none⟩ = some (.int .u16 x) ∧ (w8.drew.alloc (.cells #[.int .u16 x, .int .u32 y] 26)).cell? ⟨pb, po + k * 2 + 1, none⟩ = some (.int .u32 y)) := hid (HPC.out _ (HBW.out.trans (hbw7.mono HBW.out.size)))
          have HSU := hid (HSUC.out yl hy)
          clear hy hyl hcell hownl hgw hap hbw7
          refine wp_region_held_drew (S := fun W => W.cell? ⟨pb, po + k * 2, none⟩ = some (.int .u16 x) ∧ W.cell? ⟨pb, po + k * 2 + 1, none⟩ = some (.int .u32 y)) (by kernel_rfl) (by exact ⟨HX0.out, HX1.out⟩) (fun hHeld => ?_)
          refine wpAnyH_take (i := 0) (oi := _) (v := .slice (some ⟨g, 0, none⟩) (1 : Nat) cap) rfl (by kernel_rfl) (by kernel_rfl) (by kernel_rfl) (fun _ _ _ h => h) (Or.inl ⟨by rfl, ?_⟩) (by assumption) ?_
          · intro W hSw
            try dsimp only at hSw
            go_simp
          try simp only [Act.put, List.getElem_toArray, List.getElem_cons_succ, List.getElem_cons_zero, List.setIfInBounds_toArray, List.set_cons_zero, List.set_cons_succ]
          refine wpAnyH_take (i := 1) (oi := _) (v := .int .i64 ((0 : Nat) : Int)) rfl (by kernel_rfl) (by kernel_rfl) (by kernel_rfl) (fun _ _ _ h => h) (Or.inl ⟨by rfl, ?_⟩) (by assumption) ?_
          · intro W hSw
            try dsimp only at hSw
            go_simp
          try simp only [Act.put, List.getElem_toArray, List.getElem_cons_succ, List.getElem_cons_zero, List.setIfInBounds_toArray, List.set_cons_zero, List.set_cons_succ]
          refine wpAnyH_take (i := 2) (oi := _) (v := .slice (some ⟨g, 0, none⟩) (1 : Nat) cap) rfl (by kernel_rfl) (by kernel_rfl) (by kernel_rfl) (fun _ _ _ h => h) (Or.inl ⟨by rfl, ?_⟩) (by assumption) ?_
          · intro W hSw
            try dsimp only at hSw
            go_simp
          try simp only [Act.put, List.getElem_toArray, List.getElem_cons_succ, List.getElem_cons_zero, List.setIfInBounds_toArray, List.set_cons_zero, List.set_cons_succ]
          refine wpAnyH_take (i := 3) (oi := _) (v := .int .i64 ((0 : Nat) : Int)) rfl (by kernel_rfl) (by kernel_rfl) (by kernel_rfl) (fun _ _ _ h => h) (Or.inl ⟨by rfl, ?_⟩) (by assumption) ?_
          · intro W hSw
            try dsimp only at hSw
            go_simp
          try simp only [Act.put, List.getElem_toArray, List.getElem_cons_succ, List.getElem_cons_zero, List.setIfInBounds_toArray, List.set_cons_zero, List.set_cons_succ]
          refine wpAnyH_take (i := 4) (oi := _) (v := .pointer (some ⟨g, 0, none⟩)) rfl (by kernel_rfl) (by kernel_rfl) (by kernel_rfl) (fun _ _ _ h => h) (Or.inl ⟨by rfl, ?_⟩) (by assumption) ?_
          · intro W hSw
            try dsimp only at hSw
            go_simp
          try simp only [Act.put, List.getElem_toArray, List.getElem_cons_succ, List.getElem_cons_zero, List.setIfInBounds_toArray, List.set_cons_zero, List.set_cons_succ]
          refine wpAnyH_take (i := 6) (oi := _) (v := .slice (some ⟨pb, po, none⟩) n c) rfl (by kernel_rfl) (by kernel_rfl) (by kernel_rfl) (fun _ _ _ h => h) (Or.inl ⟨by rfl, ?_⟩) (by assumption) ?_
          · intro W hSw
            try dsimp only at hSw
            go_simp
          try simp only [Act.put, List.getElem_toArray, List.getElem_cons_succ, List.getElem_cons_zero, List.setIfInBounds_toArray, List.set_cons_zero, List.set_cons_succ]
          refine wpAnyH_take (i := 7) (oi := _) (v := .int .i64 (k : Int)) rfl (by kernel_rfl) (by kernel_rfl) (by kernel_rfl) (fun _ _ _ h => h) (Or.inl ⟨by rfl, ?_⟩) (by assumption) ?_
          · intro W hSw
            try dsimp only at hSw
            go_simp
          try simp only [Act.put, List.getElem_toArray, List.getElem_cons_succ, List.getElem_cons_zero, List.setIfInBounds_toArray, List.set_cons_zero, List.set_cons_succ]
          refine wpAnyH_take (i := 8) (oi := _) (v := .pointer (some ⟨pb, po + k * 2, none⟩)) rfl (by kernel_rfl) (by kernel_rfl) (by kernel_rfl) (fun _ _ _ h => h) (Or.inl ⟨by rfl, ?_⟩) (by assumption) ?_
          · intro W hSw
            try dsimp only at hSw
            go_simp
          try simp only [Act.put, List.getElem_toArray, List.getElem_cons_succ, List.getElem_cons_zero, List.setIfInBounds_toArray, List.set_cons_zero, List.set_cons_succ]
          refine wpAnyH_take (i := 9) (oi := _) (v := .agg #[.int .u16 x, .int .u32 y]) rfl (by kernel_rfl) (by kernel_rfl) (by kernel_rfl) (fun _ _ _ h => h) (Or.inl ⟨by rfl, ?_⟩) (by assumption) ?_
          · intro W hSw
            try dsimp only at hSw
            obtain ⟨hSw1, hSw2⟩ := hSw
            go_simp
          try simp only [Act.put, List.getElem_toArray, List.getElem_cons_succ, List.getElem_cons_zero, List.setIfInBounds_toArray, List.set_cons_zero, List.set_cons_succ]
          refine wpAnyH_ready (rs := [5, 10]) (by kernel_rfl) (by simp) ?_
          refine AllReadyH.cons (o := _) rfl (fun K hK => ?_) (AllReadyH.cons (o := _) rfl (fun K hK => ?_) AllReadyH.nil)
          · go_simp
            refine hK.out _ _ (⟨HX0.out, HX1.out⟩) (fun hHeld => ?_)
            clear hK K
            try simp only [Act.put, List.getElem_toArray, List.getElem_cons_succ, List.getElem_cons_zero, List.setIfInBounds_toArray, List.set_cons_zero, List.set_cons_succ]
            refine wpAnyH_ready (rs := [10]) (by kernel_rfl) (by simp) ?_
            refine AllReadyH.cons (o := _) rfl (fun K hK => ?_) AllReadyH.nil
            go_simp
            refine hK.out _ _ (HS7.out) (fun hHeld => ?_)
            clear hK K
            try simp only [Act.put, List.getElem_toArray, List.getElem_cons_succ, List.getElem_cons_zero, List.setIfInBounds_toArray, List.set_cons_zero, List.set_cons_succ]
            refine wpAnyH_ready (rs := [11]) (by kernel_rfl) (by simp) ?_
            refine AllReadyH.cons (o := _) rfl (fun K hK => ?_) AllReadyH.nil
            refine step_appendPat (by rfl) HO7.out HR7.out (hid rfl) HLN.out HB7.out rfl rfl rfl ?_
            intro v8 w8 hown8 hg8 hat8
            obtain ⟨a8, n8, c8, cs8, e8, k8, f8, hL8, hK8, hq8⟩ := HAP.out _ HBW7.out v8 w8 hown8 hg8 hat8
            subst e8
            have HS8 : Hid (w8.cell? ⟨pb, po + k * 2, none⟩ = some (.int .u16 x) ∧ w8.cell? ⟨pb, po + k * 2 + 1, none⟩ = some (.int .u32 y)) := hid ⟨((hq8 ⟨pb, po + k * 2, none⟩ HBQ.out.1 HBQ.out.2).1).trans HX0.out, ((hq8 ⟨pb, po + k * 2 + 1, none⟩ HBQ.out.1 HBQ.out.2).1).trans HX1.out⟩
            have HS9 : Hid ((w8.setCell ⟨g, 0, none⟩ (.slice a8 n8 c8)).cell? ⟨pb, po + k * 2, none⟩ = some (.int .u16 x) ∧ (w8.setCell ⟨g, 0, none⟩ (.slice a8 n8 c8)).cell? ⟨pb, po + k * 2 + 1, none⟩ = some (.int .u32 y)) := hid ⟨((hq8 ⟨pb, po + k * 2, none⟩ HBQ.out.1 HBQ.out.2).2).trans HX0.out, ((hq8 ⟨pb, po + k * 2 + 1, none⟩ HBQ.out.1 HBQ.out.2).2).trans HX1.out⟩
            have HL8 := hid hL8
            have HB8 : Hid (Below w4.heap.size w4 (w8.setCell ⟨g, 0, none⟩ (.slice a8 n8 c8))) := hid (HBW.out.trans ((hK8.low HLL.out).below HBW.out.size (fun _ e => e)))
            clear hown8 hg8 hat8 hL8 hK8 hq8
            refine hK.out _ _ (HS8.out) (fun hHeld => ?_)
            clear hK K
            try simp only [Act.put, List.getElem_toArray, List.getElem_cons_succ, List.getElem_cons_zero, List.setIfInBounds_toArray, List.set_cons_zero, List.set_cons_succ]
            refine wpAnyH_ready (rs := [12]) (by kernel_rfl) (by simp) ?_
            refine AllReadyH.cons (o := _) rfl (fun K hK => ?_) AllReadyH.nil
            go_simp
            refine hK.out _ _ (HS8.out) (fun hHeld => ?_)
            clear hK K
            try simp only [Act.put, List.getElem_toArray, List.getElem_cons_succ, List.getElem_cons_zero, List.setIfInBounds_toArray, List.set_cons_zero, List.set_cons_succ]
            refine wpAnyH_ready (rs := [13]) (by kernel_rfl) (by simp) ?_
            refine AllReadyH.cons (o := _) rfl (fun K hK => ?_) AllReadyH.nil
            go_simp
            refine hK.out _ _ (HS9.out) (fun hHeld => ?_)
            clear hK K
            try simp only [Act.put, List.getElem_toArray, List.getElem_cons_succ, List.getElem_cons_zero, List.setIfInBounds_toArray, List.set_cons_zero, List.set_cons_succ]
            refine wpAnyH_done (by kernel_rfl) ?_ _
            go_wp2
            go_roundw
            case rel => exact ⟨k + 1, cs8, by go_num, by omega, by rw [HSU.out]; exact HL8.out, HB8.out⟩
            case measure => simp [intOf]; omega
          · go_simp
            refine hK.out _ _ (HS7.out) (fun hHeld => ?_)
            clear hK K
            try simp only [Act.put, List.getElem_toArray, List.getElem_cons_succ, List.getElem_cons_zero, List.setIfInBounds_toArray, List.set_cons_zero, List.set_cons_succ]
            refine wpAnyH_ready (rs := [5]) (by kernel_rfl) (by simp) ?_
            refine AllReadyH.cons (o := _) rfl (fun K hK => ?_) AllReadyH.nil
            go_simp
            refine hK.out _ _ (HS7.out) (fun hHeld => ?_)
            clear hK K
            try simp only [Act.put, List.getElem_toArray, List.getElem_cons_succ, List.getElem_cons_zero, List.setIfInBounds_toArray, List.set_cons_zero, List.set_cons_succ]
            refine wpAnyH_ready (rs := [11]) (by kernel_rfl) (by simp) ?_
            refine AllReadyH.cons (o := _) rfl (fun K hK => ?_) AllReadyH.nil
            refine step_appendPat (by rfl) HO7.out HR7.out (hid rfl) HLN.out HB7.out rfl rfl rfl ?_
            intro v8 w8 hown8 hg8 hat8
            obtain ⟨a8, n8, c8, cs8, e8, k8, f8, hL8, hK8, hq8⟩ := HAP.out _ HBW7.out v8 w8 hown8 hg8 hat8
            subst e8
            have HS8 : Hid (w8.cell? ⟨pb, po + k * 2, none⟩ = some (.int .u16 x) ∧ w8.cell? ⟨pb, po + k * 2 + 1, none⟩ = some (.int .u32 y)) := hid ⟨((hq8 ⟨pb, po + k * 2, none⟩ HBQ.out.1 HBQ.out.2).1).trans HX0.out, ((hq8 ⟨pb, po + k * 2 + 1, none⟩ HBQ.out.1 HBQ.out.2).1).trans HX1.out⟩
            have HS9 : Hid ((w8.setCell ⟨g, 0, none⟩ (.slice a8 n8 c8)).cell? ⟨pb, po + k * 2, none⟩ = some (.int .u16 x) ∧ (w8.setCell ⟨g, 0, none⟩ (.slice a8 n8 c8)).cell? ⟨pb, po + k * 2 + 1, none⟩ = some (.int .u32 y)) := hid ⟨((hq8 ⟨pb, po + k * 2, none⟩ HBQ.out.1 HBQ.out.2).2).trans HX0.out, ((hq8 ⟨pb, po + k * 2 + 1, none⟩ HBQ.out.1 HBQ.out.2).2).trans HX1.out⟩
            have HL8 := hid hL8
            have HB8 : Hid (Below w4.heap.size w4 (w8.setCell ⟨g, 0, none⟩ (.slice a8 n8 c8))) := hid (HBW.out.trans ((hK8.low HLL.out).below HBW.out.size (fun _ e => e)))
            clear hown8 hg8 hat8 hL8 hK8 hq8
            refine hK.out _ _ (HS8.out) (fun hHeld => ?_)
            clear hK K
            try simp only [Act.put, List.getElem_toArray, List.getElem_cons_succ, List.getElem_cons_zero, List.setIfInBounds_toArray, List.set_cons_zero, List.set_cons_succ]
            refine wpAnyH_ready (rs := [12]) (by kernel_rfl) (by simp) ?_
            refine AllReadyH.cons (o := _) rfl (fun K hK => ?_) AllReadyH.nil
            go_simp
            refine hK.out _ _ (HS8.out) (fun hHeld => ?_)
            clear hK K
            try simp only [Act.put, List.getElem_toArray, List.getElem_cons_succ, List.getElem_cons_zero, List.setIfInBounds_toArray, List.set_cons_zero, List.set_cons_succ]
            refine wpAnyH_ready (rs := [13]) (by kernel_rfl) (by simp) ?_
            refine AllReadyH.cons (o := _) rfl (fun K hK => ?_) AllReadyH.nil
            go_simp
            refine hK.out _ _ (HS9.out) (fun hHeld => ?_)
            clear hK K
            try simp only [Act.put, List.getElem_toArray, List.getElem_cons_succ, List.getElem_cons_zero, List.setIfInBounds_toArray, List.set_cons_zero, List.set_cons_succ]
            refine wpAnyH_done (by kernel_rfl) ?_ _
            go_wp2
            go_roundw
            case rel => exact ⟨k + 1, cs8, by go_num, by omega, by rw [HSU.out]; exact HL8.out, HB8.out⟩
            case measure => simp [intOf]; omega
        · have hjn : j < n1 := by rw [← hn1]; exact hj
          have C7 := hid (C6.out _ hf)
          have v1 : decide ((j : Int) < 0) = false := decide_eq_false (by omega)
          obtain ⟨g, cap, hlit, hcap⟩ := HOWN.out.lit (by omega)
          rw [hn1] at hlit
          injection hlit with ha' _ hc'
          subst ha'
          have hc2 := hc'.symm
          subst hc2
          have HSUC : Hid (∀ y1, L[j]? = some y1 → addAll [] (l.take (k + 1)) = L.set j (y1 ++ [(x, y)])) := hid fun y1 h => by rw [hsucc]; exact addL_some hf h
          have HLEN := hid hLl
          clear C6 hsucc hf hLl hcap
          go_wp2_with fail
          (with_reducible refine C7.out.mono ?_)
          rintro e w6 ⟨rfl, hb6⟩
          have HBW := hid (HB.out.trans (hb6.mono HB.out.size))
          have HLL := hid (HOWN.out.ext hb6)
          clear hb6 C7 HOWN
          go_wp2
          clear v1
          obtain ⟨a2, m2, c2, yl, hy, hyl, hcell, hownl, hgw, hap⟩ := app_put (p := (x, y)) HLL.out hn1 hjn (Keeps.refl w6 (.slice (some ⟨g, 0, none⟩) n1 cap) cs)
          have hbw7 : Below w6.heap.size w6 (w6.drew.alloc (.cells #[.int .u16 x, .int .u32 y] 26)) := (Below.refl _ _).drew.alloc (by simp) _
          have hcell7 : (w6.drew.alloc (.cells #[.int .u16 x, .int .u32 y] 26)).cell? ⟨g, j, none⟩ = some (.slice a2 m2 c2) := (hbw7.cell (by exact hgw)).trans hcell
          have hcella : (w6.alloc (.cells #[.int .u16 x, .int .u32 y] 26)).cell? ⟨g, j, none⟩ = some (.slice a2 m2 c2) := (((Below.refl _ _).alloc (Nat.le_refl _) _ : Below w6.heap.size w6 _).cell (by exact hgw)).trans hcell
          have hcelld : w6.drew.cell? ⟨g, j, none⟩ = some (.slice a2 m2 c2) := hcell
          have HO7 := hid (hownl.ext hbw7)
          have HR7 : Hid (PidRow (w6.drew.alloc (.cells #[.int .u16 x, .int .u32 y] 26)) (some ⟨w6.heap.size, 0, none⟩) [(x, y)]) := hid (PidRow.one w6.drew x y)
          have HLN : Hid (yl.length + [(x, y)].length ≤ 1099511627776) := hid (by have := HLEN.out yl (List.mem_of_getElem? hy); simp; omega)
          have HB7 : Hid (w4.heap.size ≤ (w6.drew.alloc (.cells #[.int .u16 x, .int .u32 y] 26)).heap.size) := hid (by have := HBW.out.size; simp; omega)
          have HAP := hid hap
          have HBW7 := hid hbw7
          have HBQ : Hid (pb < w6.heap.size ∧ ¬ inLL (.slice (some ⟨g, 0, none⟩) n1 cap) cs pb) := hid ⟨by have := HBW.out.size; omega, fun e => by have := (HLL.out.inB e).1; omega⟩
          have HX0 : Hid (w6.drew.cell? ⟨pb, po + k * 2, none⟩ = some (.int .u16 x)) := hid (HPC.out _ HBW.out).1
          have HX1 : Hid (w6.drew.cell? ⟨pb, po + k * 2 + 1, none⟩ = some (.int .u32 y)) := hid (HPC.out _ HBW.out).2
          have HS7 : Hid ((w6.drew.alloc (.cells #[.int .u16 x, .int .u32 y] 26)).cell? ⟨pb, po + k * 2, none⟩ = some (.int .u16 x) ∧ (w6.drew.alloc (.cells #[.int .u16 x, .int .u32 y] 26)).cell? ⟨pb, po + k * 2 + 1, none⟩ = some (.int .u32 y)) := hid (HPC.out _ (HBW.out.trans (hbw7.mono HBW.out.size)))
          have HSU := hid (HSUC.out yl hy)
          clear hy hyl hcell hownl hgw hap hbw7
          refine wp_region_held_drew (S := fun W => W.cell? ⟨pb, po + k * 2, none⟩ = some (.int .u16 x) ∧ W.cell? ⟨pb, po + k * 2 + 1, none⟩ = some (.int .u32 y)) (by kernel_rfl) (by exact ⟨HX0.out, HX1.out⟩) (fun hHeld => ?_)
          refine wpAnyH_take (i := 0) (oi := _) (v := .slice (some ⟨g, 0, none⟩) n1 cap) rfl (by kernel_rfl) (by kernel_rfl) (by kernel_rfl) (fun _ _ _ h => h) (Or.inl ⟨by rfl, ?_⟩) (by assumption) ?_
          · intro W hSw
            try dsimp only at hSw
            go_simp
          try simp only [Act.put, List.getElem_toArray, List.getElem_cons_succ, List.getElem_cons_zero, List.setIfInBounds_toArray, List.set_cons_zero, List.set_cons_succ]
          refine wpAnyH_take (i := 1) (oi := _) (v := .int .i64 (j : Int)) rfl (by kernel_rfl) (by kernel_rfl) (by kernel_rfl) (fun _ _ _ h => h) (Or.inl ⟨by rfl, ?_⟩) (by assumption) ?_
          · intro W hSw
            try dsimp only at hSw
            go_simp
          try simp only [Act.put, List.getElem_toArray, List.getElem_cons_succ, List.getElem_cons_zero, List.setIfInBounds_toArray, List.set_cons_zero, List.set_cons_succ]
          refine wpAnyH_take (i := 2) (oi := _) (v := .slice (some ⟨g, 0, none⟩) n1 cap) rfl (by kernel_rfl) (by kernel_rfl) (by kernel_rfl) (fun _ _ _ h => h) (Or.inl ⟨by rfl, ?_⟩) (by assumption) ?_
          · intro W hSw
            try dsimp only at hSw
            go_simp
          try simp only [Act.put, List.getElem_toArray, List.getElem_cons_succ, List.getElem_cons_zero, List.setIfInBounds_toArray, List.set_cons_zero, List.set_cons_succ]
          refine wpAnyH_take (i := 3) (oi := _) (v := .int .i64 (j : Int)) rfl (by kernel_rfl) (by kernel_rfl) (by kernel_rfl) (fun _ _ _ h => h) (Or.inl ⟨by rfl, ?_⟩) (by assumption) ?_
          · intro W hSw
            try dsimp only at hSw
            go_simp
          try simp only [Act.put, List.getElem_toArray, List.getElem_cons_succ, List.getElem_cons_zero, List.setIfInBounds_toArray, List.set_cons_zero, List.set_cons_succ]
          refine wpAnyH_take (i := 4) (oi := _) (v := .pointer (some ⟨g, j, none⟩)) rfl (by kernel_rfl) (by kernel_rfl) (by kernel_rfl) (fun _ _ _ h => h) (Or.inl ⟨by rfl, ?_⟩) (by assumption) ?_
          · intro W hSw
            try dsimp only at hSw
            go_simp
          try simp only [Act.put, List.getElem_toArray, List.getElem_cons_succ, List.getElem_cons_zero, List.setIfInBounds_toArray, List.set_cons_zero, List.set_cons_succ]
          refine wpAnyH_take (i := 6) (oi := _) (v := .slice (some ⟨pb, po, none⟩) n c) rfl (by kernel_rfl) (by kernel_rfl) (by kernel_rfl) (fun _ _ _ h => h) (Or.inl ⟨by rfl, ?_⟩) (by assumption) ?_
          · intro W hSw
            try dsimp only at hSw
            go_simp
          try simp only [Act.put, List.getElem_toArray, List.getElem_cons_succ, List.getElem_cons_zero, List.setIfInBounds_toArray, List.set_cons_zero, List.set_cons_succ]
          refine wpAnyH_take (i := 7) (oi := _) (v := .int .i64 (k : Int)) rfl (by kernel_rfl) (by kernel_rfl) (by kernel_rfl) (fun _ _ _ h => h) (Or.inl ⟨by rfl, ?_⟩) (by assumption) ?_
          · intro W hSw
            try dsimp only at hSw
            go_simp
          try simp only [Act.put, List.getElem_toArray, List.getElem_cons_succ, List.getElem_cons_zero, List.setIfInBounds_toArray, List.set_cons_zero, List.set_cons_succ]
          refine wpAnyH_take (i := 8) (oi := _) (v := .pointer (some ⟨pb, po + k * 2, none⟩)) rfl (by kernel_rfl) (by kernel_rfl) (by kernel_rfl) (fun _ _ _ h => h) (Or.inl ⟨by rfl, ?_⟩) (by assumption) ?_
          · intro W hSw
            try dsimp only at hSw
            go_simp
          try simp only [Act.put, List.getElem_toArray, List.getElem_cons_succ, List.getElem_cons_zero, List.setIfInBounds_toArray, List.set_cons_zero, List.set_cons_succ]
          refine wpAnyH_take (i := 9) (oi := _) (v := .agg #[.int .u16 x, .int .u32 y]) rfl (by kernel_rfl) (by kernel_rfl) (by kernel_rfl) (fun _ _ _ h => h) (Or.inl ⟨by rfl, ?_⟩) (by assumption) ?_
          · intro W hSw
            try dsimp only at hSw
            obtain ⟨hSw1, hSw2⟩ := hSw
            go_simp
          try simp only [Act.put, List.getElem_toArray, List.getElem_cons_succ, List.getElem_cons_zero, List.setIfInBounds_toArray, List.set_cons_zero, List.set_cons_succ]
          refine wpAnyH_ready (rs := [5, 10]) (by kernel_rfl) (by simp) ?_
          refine AllReadyH.cons (o := _) rfl (fun K hK => ?_) (AllReadyH.cons (o := _) rfl (fun K hK => ?_) AllReadyH.nil)
          · go_simp
            refine hK.out _ _ (⟨HX0.out, HX1.out⟩) (fun hHeld => ?_)
            clear hK K
            try simp only [Act.put, List.getElem_toArray, List.getElem_cons_succ, List.getElem_cons_zero, List.setIfInBounds_toArray, List.set_cons_zero, List.set_cons_succ]
            refine wpAnyH_ready (rs := [10]) (by kernel_rfl) (by simp) ?_
            refine AllReadyH.cons (o := _) rfl (fun K hK => ?_) AllReadyH.nil
            go_simp
            refine hK.out _ _ (HS7.out) (fun hHeld => ?_)
            clear hK K
            try simp only [Act.put, List.getElem_toArray, List.getElem_cons_succ, List.getElem_cons_zero, List.setIfInBounds_toArray, List.set_cons_zero, List.set_cons_succ]
            refine wpAnyH_ready (rs := [11]) (by kernel_rfl) (by simp) ?_
            refine AllReadyH.cons (o := _) rfl (fun K hK => ?_) AllReadyH.nil
            refine step_appendPat (by rfl) HO7.out HR7.out (hid rfl) HLN.out HB7.out rfl rfl rfl ?_
            intro v8 w8 hown8 hg8 hat8
            obtain ⟨a8, n8, c8, cs8, e8, k8, f8, hL8, hK8, hq8⟩ := HAP.out _ HBW7.out v8 w8 hown8 hg8 hat8
            subst e8
            have HS8 : Hid (w8.cell? ⟨pb, po + k * 2, none⟩ = some (.int .u16 x) ∧ w8.cell? ⟨pb, po + k * 2 + 1, none⟩ = some (.int .u32 y)) := hid ⟨((hq8 ⟨pb, po + k * 2, none⟩ HBQ.out.1 HBQ.out.2).1).trans HX0.out, ((hq8 ⟨pb, po + k * 2 + 1, none⟩ HBQ.out.1 HBQ.out.2).1).trans HX1.out⟩
            have HS9 : Hid ((w8.setCell ⟨g, j, none⟩ (.slice a8 n8 c8)).cell? ⟨pb, po + k * 2, none⟩ = some (.int .u16 x) ∧ (w8.setCell ⟨g, j, none⟩ (.slice a8 n8 c8)).cell? ⟨pb, po + k * 2 + 1, none⟩ = some (.int .u32 y)) := hid ⟨((hq8 ⟨pb, po + k * 2, none⟩ HBQ.out.1 HBQ.out.2).2).trans HX0.out, ((hq8 ⟨pb, po + k * 2 + 1, none⟩ HBQ.out.1 HBQ.out.2).2).trans HX1.out⟩
            have HL8 := hid hL8
            have HB8 : Hid (Below w4.heap.size w4 (w8.setCell ⟨g, j, none⟩ (.slice a8 n8 c8))) := hid (HBW.out.trans ((hK8.low HLL.out).below HBW.out.size (fun _ e => e)))
            clear hown8 hg8 hat8 hL8 hK8 hq8
            refine hK.out _ _ (HS8.out) (fun hHeld => ?_)
            clear hK K
            try simp only [Act.put, List.getElem_toArray, List.getElem_cons_succ, List.getElem_cons_zero, List.setIfInBounds_toArray, List.set_cons_zero, List.set_cons_succ]
            refine wpAnyH_ready (rs := [12]) (by kernel_rfl) (by simp) ?_
            refine AllReadyH.cons (o := _) rfl (fun K hK => ?_) AllReadyH.nil
            go_simp
            refine hK.out _ _ (HS8.out) (fun hHeld => ?_)
            clear hK K
            try simp only [Act.put, List.getElem_toArray, List.getElem_cons_succ, List.getElem_cons_zero, List.setIfInBounds_toArray, List.set_cons_zero, List.set_cons_succ]
            refine wpAnyH_ready (rs := [13]) (by kernel_rfl) (by simp) ?_
            refine AllReadyH.cons (o := _) rfl (fun K hK => ?_) AllReadyH.nil
            go_simp
            refine hK.out _ _ (HS9.out) (fun hHeld => ?_)
            clear hK K
            try simp only [Act.put, List.getElem_toArray, List.getElem_cons_succ, List.getElem_cons_zero, List.setIfInBounds_toArray, List.set_cons_zero, List.set_cons_succ]
            refine wpAnyH_done (by kernel_rfl) ?_ _
            go_wp2
            go_roundw
            case rel => exact ⟨k + 1, cs8, by go_num, by omega, by rw [HSU.out]; exact HL8.out, HB8.out⟩
            case measure => simp [intOf]; omega
          · go_simp
            refine hK.out _ _ (HS7.out) (fun hHeld => ?_)
            clear hK K
            try simp only [Act.put, List.getElem_toArray, List.getElem_cons_succ, List.getElem_cons_zero, List.setIfInBounds_toArray, List.set_cons_zero, List.set_cons_succ]
            refine wpAnyH_ready (rs := [5]) (by kernel_rfl) (by simp) ?_
            refine AllReadyH.cons (o := _) rfl (fun K hK => ?_) AllReadyH.nil
            go_simp
            refine hK.out _ _ (HS7.out) (fun hHeld => ?_)
            clear hK K
            try simp only [Act.put, List.getElem_toArray, List.getElem_cons_succ, List.getElem_cons_zero, List.setIfInBounds_toArray, List.set_cons_zero, List.set_cons_succ]
            refine wpAnyH_ready (rs := [11]) (by kernel_rfl) (by simp) ?_
            refine AllReadyH.cons (o := _) rfl (fun K hK => ?_) AllReadyH.nil
            refine step_appendPat (by rfl) HO7.out HR7.out (hid rfl) HLN.out HB7.out rfl rfl rfl ?_
            intro v8 w8 hown8 hg8 hat8
            obtain ⟨a8, n8, c8, cs8, e8, k8, f8, hL8, hK8, hq8⟩ := HAP.out _ HBW7.out v8 w8 hown8 hg8 hat8
            subst e8
            have HS8 : Hid (w8.cell? ⟨pb, po + k * 2, none⟩ = some (.int .u16 x) ∧ w8.cell? ⟨pb, po + k * 2 + 1, none⟩ = some (.int .u32 y)) := hid ⟨((hq8 ⟨pb, po + k * 2, none⟩ HBQ.out.1 HBQ.out.2).1).trans HX0.out, ((hq8 ⟨pb, po + k * 2 + 1, none⟩ HBQ.out.1 HBQ.out.2).1).trans HX1.out⟩
            have HS9 : Hid ((w8.setCell ⟨g, j, none⟩ (.slice a8 n8 c8)).cell? ⟨pb, po + k * 2, none⟩ = some (.int .u16 x) ∧ (w8.setCell ⟨g, j, none⟩ (.slice a8 n8 c8)).cell? ⟨pb, po + k * 2 + 1, none⟩ = some (.int .u32 y)) := hid ⟨((hq8 ⟨pb, po + k * 2, none⟩ HBQ.out.1 HBQ.out.2).2).trans HX0.out, ((hq8 ⟨pb, po + k * 2 + 1, none⟩ HBQ.out.1 HBQ.out.2).2).trans HX1.out⟩
            have HL8 := hid hL8
            have HB8 : Hid (Below w4.heap.size w4 (w8.setCell ⟨g, j, none⟩ (.slice a8 n8 c8))) := hid (HBW.out.trans ((hK8.low HLL.out).below HBW.out.size (fun _ e => e)))
            clear hown8 hg8 hat8 hL8 hK8 hq8
            refine hK.out _ _ (HS8.out) (fun hHeld => ?_)
            clear hK K
            try simp only [Act.put, List.getElem_toArray, List.getElem_cons_succ, List.getElem_cons_zero, List.setIfInBounds_toArray, List.set_cons_zero, List.set_cons_succ]
            refine wpAnyH_ready (rs := [12]) (by kernel_rfl) (by simp) ?_
            refine AllReadyH.cons (o := _) rfl (fun K hK => ?_) AllReadyH.nil
            go_simp
            refine hK.out _ _ (HS8.out) (fun hHeld => ?_)
            clear hK K
            try simp only [Act.put, List.getElem_toArray, List.getElem_cons_succ, List.getElem_cons_zero, List.setIfInBounds_toArray, List.set_cons_zero, List.set_cons_succ]
            refine wpAnyH_ready (rs := [13]) (by kernel_rfl) (by simp) ?_
            refine AllReadyH.cons (o := _) rfl (fun K hK => ?_) AllReadyH.nil
            go_simp
            refine hK.out _ _ (HS9.out) (fun hHeld => ?_)
            clear hK K
            try simp only [Act.put, List.getElem_toArray, List.getElem_cons_succ, List.getElem_cons_zero, List.setIfInBounds_toArray, List.set_cons_zero, List.set_cons_succ]
            refine wpAnyH_done (by kernel_rfl) ?_ _
            go_wp2
            go_roundw
            case rel => exact ⟨k + 1, cs8, by go_num, by omega, by rw [HSU.out]; exact HL8.out, HB8.out⟩
            case measure => simp [intOf]; omega
      · have hkn : n = k := by omega
        subst hkn
        have htk : l.take n = l := List.take_of_length_le (by rw [hn.out]; omega)
        rw [htk] at hown
        have HBD := hid hb
        have HLD := hid hown
        clear hb hown htk hk hlt HBC2
        obtain ⟨a0, c0, he0, -⟩ := HLD.out.row
        subst he0
        have hokA := addAll_ok l (ls := []) (fun _ h => by cases h)
        have HOKA := hid hokA
        clear hokA
        go_upto_block 8 with fail
        go_cut [15] (fun v wx => ∃ cs, LLs wx w4.heap.size v cs (firstF l b) ∧ Below w4.heap.size w4 wx)
        case first =>
          go_wp2
          go_loopw [15, 19] (fun v i wx => ∃ (t : Nat) (L : LL) (cs : List Sl), i = .int .i64 t ∧ t ≤ 200 ∧ LLs wx w4.heap.size v cs L ∧ Full L ∧ L.flatten.Perm l ∧ fitN b (200 - t) L = firstF l b ∧ Below w4.heap.size w4 wx) (fun _ i _ => 200 - (intOf i).toNat)
          case atStart => exact ⟨0, _, _, rfl, Nat.zero_le _, HLD.out, HOKA.out.1, by simpa using HOKA.out.2, rfl, HBD.out⟩
          case round =>
          obtain ⟨t, L, cs, rfl, ht, hown, hfull, hperm, hfit, hb⟩ := hrel
          by_cases hlt : t < 200
          case neg =>
            have ht2 : 200 - t = 0 := by omega
            rw [ht2] at hfit
            have hfit : L = firstF l b := hfit
            have HE := hid (hfit ▸ hown)
            have HBE := hid hb
            clear hown hfull hperm hfit hb ht2
            go_wp2
            go_meet
            exact ⟨_, HE.out, HBE.out⟩
          obtain ⟨m, hm⟩ : ∃ m, 200 - t = m + 1 := ⟨199 - t, by omega⟩
          have hm2 : 200 - (t + 1) = m := by omega
          rw [hm] at hfit
          unfold fitN at hfit
          have hLt : total L ≤ 24 := by
            have := hperm.length_eq
            rw [total_flat, hn.out] at this
            have := HN24.out
            omega
          have hLn : L.length ≤ 24 := by have := full_len hfull; omega
          have hLl : ∀ y1 ∈ L, y1.length ≤ 24 := fun y1 h => by have := lens_total L y1 h; omega
          obtain ⟨n1, hn1⟩ : ∃ n1, L.length = n1 := ⟨_, rfl⟩
          obtain ⟨a', c', he, hrowL⟩ := hown.row
          rw [hn1] at he hLn
          subst he
          obtain ⟨G, hG⟩ : ∃ G, greatL b L = G := ⟨_, rfl⟩
          have CG := hid (greatR_any (b := b) (c := c') (by rw [hn1]; omega) hrowL)
          rw [hn1, hG] at CG
          obtain ⟨z0, z1, z2⟩ := (HPR.out _ hb).2.2.1
          have HB := hid hb
          have HOWN := hid hown
          have HM2 := hid hm2
          have HROWL := hid hrowL
          have HLL24 := hid hLl
          rw [hG] at hfit
          clear hm hm2 hLl hb hown hrowL
          by_cases hg0 : 0 ≤ G
          · obtain ⟨-, hfull2, hperm2, hjl, hl2⟩ := part_ok HBC.out hfull (by rw [hG]; exact hg0)
            rw [hG] at hfull2 hperm2 hjl hl2
            obtain ⟨j, hj⟩ : ∃ j : Nat, G = (j : Int) := ⟨G.toNat, by omega⟩
            subst hj
            rw [if_pos hg0] at hfit
            rw [Int.toNat_natCast] at hfull2 hperm2 hjl hl2 hfit
            obtain ⟨g, cap, s, elit, hcap, hbg, hgw, hcs, hcell, hfr, hown1, hsg⟩ := HOWN.out.get (k := j) hjl
            rw [hn1] at elit hcap
            injection elit with ea _ ec
            subst ea
            subst ec
            have hgd : L.getD j [] = L[j] := by simp [List.getD, hjl]
            obtain ⟨l1, hl1⟩ : ∃ l1, L[j] = l1 := ⟨_, rfl⟩
            have hl124 : l1.length ≤ 24 := HLL24.out l1 (by rw [← hl1]; exact List.getElem_mem hjl)
            have HPL : Hid (partL L j = L.set j (l1.take (half l1)) ++ [l1.drop (half l1)]) := hid (by unfold partL; rw [hgd, hl1])
            rw [hl1] at hown1
            obtain ⟨sa, ks, hes, hes2, hrow1, hlc1, hblk1⟩ := hown1.sl
            rw [hes] at hcell
            have hsS : s = (sa, l1.length, ks) := by
              obtain ⟨x, y, z⟩ := s
              have : Value.slice x y z = Value.slice sa l1.length ks := hes
              injection this with e1 e2 e3
              rw [e1, e2, e3]
            subst hsS
            obtain ⟨m1, hm1⟩ : ∃ m1, l1.length = m1 := ⟨_, rfl⟩
            obtain ⟨q, hq⟩ : ∃ q, half l1 = q := ⟨_, rfl⟩
            have hqm : q = (m1 + 1) / 2 := by rw [← hq, ← hm1]; rfl
            rw [hq] at HPL
            rw [hm1] at hcell hlc1 hl124 hcs hsg
            have hw2 := half_run m1 (by omega)
            rw [← hqm] at hw2
            have hw1 : IntKind.i64.wrap ((m1 : Int) + 1) = (m1 : Int) + 1 := by rw [IntKind.wrap_i64] <;> omega
            have h20 : ((2 : Int) == 0) = false := rfl
            have hqle : q ≤ m1 := by omega
            obtain ⟨a1, ha1⟩ : ∃ a1, (if ks = 0 then sa else sa.map (·.add (0 * 2))) = a1 := ⟨_, rfl⟩
            obtain ⟨a2, ha2⟩ : ∃ a2, (if ks = q then sa else sa.map (·.add (q * 2))) = a2 := ⟨_, rfl⟩
            obtain ⟨n2, hn2⟩ : ∃ n2, m1 - q = n2 := ⟨_, rfl⟩
            obtain ⟨c2, hc2⟩ : ∃ c2, ks - q = c2 := ⟨_, rfl⟩
            have U1 : ∀ W, (Instr.slice 30 (.slice sa m1 ks) none (some (.int .i64 q)) none).run Try.prog W = .ok (.slice a1 q ks) W := fun W => by rw [run_uptoP (by omega) W, ha1]; rfl
            have U2 : ∀ W, (Instr.slice 30 (.slice sa m1 ks) (some (.int .i64 q)) none none).run Try.prog W = .ok (.slice a2 n2 c2) W := fun W => by rw [run_fromP hqle W, ha2, hn2, hc2]
            have HRU : Hid (∀ X, Below wr.heap.size wr X → PidRow X a1 (l1.take q)) := hid fun X h => by rw [← ha1]; exact (hrow1.ext h).uptoC q ks
            have HRD : Hid (∀ X, Below wr.heap.size wr X → PidRow X a2 (l1.drop q)) := hid fun X h => by rw [← ha2]; exact (hrow1.ext h).from (by rw [hm1]; exact hlc1)
            have HND : Hid ((l1.drop q).length = n2) := hid (by rw [List.length_drop, hm1, hn2])
            have HNU : Hid ((l1.take q).length = q) := hid (by rw [List.length_take, hm1]; omega)
            have v1 : decide ((j : Int) ≥ 0) = true := decide_eq_true (by omega)
            have v2 : decide (0 ≤ (j : Int)) = true := decide_eq_true (by omega)
            have HFULL2 := hid hfull2
            have HPERM2 := hid (hperm2.trans hperm)
            have HFIT2 : Hid (fitN b (200 - (t + 1)) (partL L j) = firstF l b) := hid (by rw [HM2.out]; exact hfit)
            have HCELL : Hid (∀ X, Below wr.heap.size wr X → X.cell? ⟨g, j, none⟩ = some (.slice sa m1 ks) ∧ X.frozen? ⟨g, j, none⟩ = false) := hid fun X h => ⟨cell_to hcell h, ((Mut.of_below (F := fun _ => False) h).frozen (p := ⟨g, j, none⟩) hgw (fun e => e)).trans hfr⟩
            have HSL := hid hcs
            have HGW := hid hgw
            have HBG := hid hbg
            have HJL := hid hjl
            have HMADE : Hid (∀ W : World, OwnP (W.alloc (.cells #[] 26)) W.heap.size (.slice (some ⟨W.heap.size, 0, none⟩) 0 0) []) := hid fun W => World.ownsRow_made (w := W) #[] 0 (Nat.le_refl _) (by unfold maxLen; omega) (by simp)
            have hn2l : n2 ≤ 24 := by omega
            clear hG hfull hperm hfull2 hperm2 hl2 hfit hcs hcell hfr hown1 hgd hes hes2 hrow1 hlc1 hblk1 hcap hbg hsg hq hqm hc2 hn2 ha1 ha2 hl1 hm1 HM2 HLL24 HROWL hg0
            go_wp2_with fail
            (with_reducible refine CG.out.mono ?_)
            rintro e w6 ⟨rfl, hb6⟩
            have HB6 := hid hb6
            have k6 := (HCELL.out w6 HB6.out).1
            have hb6a : Below wr.heap.size wr (w6.alloc (.cells #[] 26)) := hb6.alloc hb6.size _
            have k6a := (HCELL.out _ hb6a).1
            have HB6A := hid hb6a
            have HZ6 : Hid (w6.heap.size ≤ (w6.alloc (.cells #[] 26)).heap.size) := hid (by simp)
            clear hb6 hb6a CG z0 z1 z2
            go_wp2_with (first
              | (at_builtin; refine wpList_appendPat (HMADE.out w6) (HRD.out _ HB6A.out) HND (by simp; omega) HZ6.out rfl rfl rfl rfl ?_; intro v7 w7 hown7 hg7 hat7; simp only [List.nil_append] at hown7; obtain ⟨a7, c7, e7, e7s, hr7, hc7, hblk7⟩ := hown7.sl; rw [HND.out] at e7 e7s hblk7; subst e7; have HB67 : Hid (Below w6.heap.size w6 w7) := hid (((Below.refl _ _).alloc (Nat.le_refl _) _ : Below w6.heap.size w6 (w6.alloc (.cells #[] 26))).grown hg7 HZ6.out (fun g hg => ((HMADE.out w6).blk hg).1)); have HB7 := hid (HB6.out.trans (HB67.out.mono HB6.out.size)); have hb7a : Below wr.heap.size wr (w7.alloc (.cells #[] 26)) := HB7.out.alloc HB7.out.size _; have HB7A := hid hb7a; have HZ7 : Hid (w7.heap.size ≤ (w7.alloc (.cells #[] 26)).heap.size) := hid (by simp); have k7 := (HCELL.out w7 HB7.out).1; have k7a := (HCELL.out _ hb7a).1; have HO7 := hid hown7; have HBK7 := hid hblk7; clear k6 k6a hown7 hg7 hat7 hr7 hc7 hblk7 hb7a e7s)
              | (at_builtin; refine wpList_appendPat (HMADE.out w7) (HRU.out _ HB7A.out) HNU (by simp; omega) HZ7.out rfl rfl rfl rfl ?_; intro v8 w8 hown8 hg8 hat8; simp only [List.nil_append] at hown8; obtain ⟨a8, c8, e8, e8s, hr8, hc8, hblk8⟩ := hown8.sl; rw [HNU.out] at e8 e8s hblk8; subst e8; have HB78 : Hid (Below w7.heap.size w7 w8) := hid (((Below.refl _ _).alloc (Nat.le_refl _) _ : Below w7.heap.size w7 (w7.alloc (.cells #[] 26))).grown hg8 HZ7.out (fun g hg => ((HMADE.out w7).blk hg).1)); have HB8 := hid (HB7.out.trans (HB78.out.mono HB7.out.size)); obtain ⟨k8, f8⟩ := HCELL.out w8 HB8.out; have HO8 := hid hown8; have HBK8 := hid hblk8; clear k7 k7a hown8 hg8 hat8 hr8 hc8 hblk8 e8s; obtain ⟨HL9, HC9, HP9, HV9, HU9, HZ9, HB9⟩ : Hid (LLs ((w8.setCell ⟨g, j, none⟩ (.slice a8 q c8)).alloc (.cells #[.slice a7 n2 c7] 30)) w4.heap.size (.slice (some ⟨g, 0, none⟩) n1 c') (cs.set j (a8, q, c8)) (L.set j (l1.take q))) ∧ Hid (((w8.setCell ⟨g, j, none⟩ (.slice a8 q c8)).alloc (.cells #[.slice a7 n2 c7] 30)).cell? ⟨w8.heap.size, 0, none⟩ = some (encS (a7, n2, c7))) ∧ Hid (OwnP ((w8.setCell ⟨g, j, none⟩ (.slice a8 q c8)).alloc (.cells #[.slice a7 n2 c7] 30)) w4.heap.size (encS (a7, n2, c7)) (l1.drop q)) ∧ Hid (∀ g', blkS (a7, n2, c7) = some g' → (Value.slice (some ⟨g, 0, none⟩) n1 c').ownBlock ≠ some g') ∧ Hid (∀ u ∈ cs.set j (a8, q, c8), ∀ g, blkS u = some g → blkS (a7, n2, c7) ≠ some g) ∧ Hid (w4.heap.size ≤ ((w8.setCell ⟨g, j, none⟩ (.slice a8 q c8)).alloc (.cells #[.slice a7 n2 c7] 30)).heap.size) ∧ Hid (Below w4.heap.size w4 ((w8.setCell ⟨g, j, none⟩ (.slice a8 q c8)).alloc (.cells #[.slice a7 n2 c7] 30))) := part_facts HB.out HB6.out HB67.out HB78.out HOWN.out hn1 HJL.out HSL.out HO7.out HO8.out HBK7.out HBK8.out)
              | (at_builtin; refine wpList_appendLs HL9.out HC9.out HP9.out HV9.out HU9.out (by rw [List.length_set, hn1]; omega) HZ9.out rfl rfl rfl rfl ?_; intro v9 w9 hls9 hg9 hat9; have HB10 := hid (HB9.out.grown hg9 HZ9.out (fun g hg => (HL9.out.blk hg).1)); have HL10 := hid hls9; clear hls9 hg9 hat9))
            go_roundw
            case rel => exact ⟨t + 1, partL L j, _, by go_num, by omega, by rw [HPL.out]; exact HL10.out, HFULL2.out, HPERM2.out, HFIT2.out, HB10.out⟩
            case measure => simp [intOf]; omega
          · have v1 : decide (G ≥ 0) = false := decide_eq_false hg0
            have v2 : decide (0 ≤ G) = false := decide_eq_false hg0
            rw [if_neg hg0] at hfit
            obtain ⟨M, hM⟩ : ∃ M, smallL b L = M := ⟨_, rfl⟩
            rw [hM] at hfit
            have CS : Hid (∀ X, Below wr.heap.size wr X → Calls Try.prog 222 #[.slice a' n1 c', .agg #[.int .i64 b.least, .int .i64 b.most, .int .i64 b.tmo]] X fun e w' => e = .returned (.int .i64 M) ∧ Below X.heap.size X w') := hid fun X h => by
              have := smallR_any (b := b) (c := c') (by rw [hn1]; omega) (HROWL.out.ext h)
              rw [hn1, hM] at this
              exact this
            clear hG
            go_wp2_with fail
            (with_reducible refine CG.out.mono ?_)
            rintro e w6 ⟨rfl, hb6⟩
            have CSw := CS.out _ hb6
            have HB6 := hid hb6
            clear CG CS z0 z1 z2 hb6
            obtain ⟨z0, z1, z2⟩ := (HPR.out _ (HB.out.trans (HB6.out.mono HB.out.size))).2.2.1
            go_wp2_with fail
            (with_reducible refine CSw.mono ?_)
            rintro e w7 ⟨rfl, hb7⟩
            have HB7 : Hid (Below wr.heap.size wr w7) := hid (HB6.out.trans (hb7.mono HB6.out.size))
            clear CSw z0 z1 z2 hb7 HB6 v1 v2
            by_cases hs0 : 0 ≤ M
            case neg =>
              have v1 : decide (M < 0) = true := decide_eq_true (by omega)
              rw [if_neg hs0] at hfit
              have HE := hid (hfit ▸ (HOWN.out.ext HB7.out))
              have HBE := hid (HB.out.trans (HB7.out.mono HB.out.size))
              have HS0 := hid hs0
              clear hfit hs0 hM
              go_wp2
              go_meet
              exact ⟨_, HE.out, HBE.out⟩
            have v1 : decide (M < 0) = false := decide_eq_false (by omega)
            obtain ⟨-, hfull2, hperm2, hsl⟩ := join_ok HBC.out hfull (by rw [hM]; exact hs0)
            have h2 := small_two (b := b) (ls := L) (by rw [hM]; exact hs0)
            rw [hM] at hfull2 hperm2 hsl
            obtain ⟨s, hs⟩ : ∃ s : Nat, M = (s : Int) := ⟨M.toNat, by omega⟩
            subst hs
            rw [if_pos hs0] at hfit
            rw [Int.toNat_natCast] at hfull2 hperm2 hsl hfit
            obtain ⟨j, hjl, hjs, hfew⟩ := fewL_other h2 hsl
            have CW := hid (fewestR_any (c := c') (but := (s : Int)) (by rw [hn1]; omega) (HROWL.out.ext HB7.out))
            rw [hn1, hfew] at CW
            obtain ⟨g, cap, sj, elit, hcap, hbg, hgw, hcj, hcellj, hfrj, hownj, hsgj⟩ := HOWN.out.get (k := j) hjl
            obtain ⟨g2, cap2, ss, elit2, -, -, -, hcs, hcells, -, howns, -⟩ := HOWN.out.get (k := s) hsl
            rw [hn1] at elit elit2 hcap
            injection elit with ea _ ec
            subst ea
            subst ec
            injection elit2 with ea2 _ ec3
            clear ec3
            injection ea2 with ea3
            injection ea3 with ea4
            subst ea4
            have hgdj : L.getD j [] = L[j] := by simp [List.getD, hjl]
            have hgds : L.getD s [] = L[s] := by simp [List.getD, hsl]
            obtain ⟨l1, hl1⟩ : ∃ l1, L[j] = l1 := ⟨_, rfl⟩
            obtain ⟨l2, hl2⟩ : ∃ l2, L[s] = l2 := ⟨_, rfl⟩
            have hl124 : l1.length ≤ 24 := HLL24.out l1 (by rw [← hl1]; exact List.getElem_mem hjl)
            have hl224 : l2.length ≤ 24 := HLL24.out l2 (by rw [← hl2]; exact List.getElem_mem hsl)
            have HJO : Hid (joinL L s = (L.set j (l1 ++ l2)).eraseIdx s) := hid (by
              rw [← join_eq h2 hsl]
              unfold joinR
              rw [hfew, Int.toNat_natCast, hgdj, hgds, hl1, hl2])
            rw [hl1] at hownj
            rw [hl2] at howns
            obtain ⟨a1, c1, he1, -, hrow1, -, -⟩ := hownj.sl
            obtain ⟨a2, c2, he2, -, hrow2, -, -⟩ := howns.sl
            rw [he1] at hcellj
            rw [he2] at hcells
            obtain ⟨m1, hm1⟩ : ∃ m, l1.length = m := ⟨_, rfl⟩
            obtain ⟨m2, hm2⟩ : ∃ m, l2.length = m := ⟨_, rfl⟩
            rw [hm1] at hcellj
            rw [hm2] at hcells
            have HCJ : Hid (∀ X, Below wr.heap.size wr X → X.cell? ⟨g, j, none⟩ = some (.slice a1 m1 c1) ∧ X.frozen? ⟨g, j, none⟩ = false ∧ X.cell? ⟨g, s, none⟩ = some (.slice a2 m2 c2)) := hid fun X h => ⟨cell_to hcellj h, ((Mut.of_below (F := fun _ => False) h).frozen (p := ⟨g, j, none⟩) hgw (fun e => e)).trans hfrj, cell_to hcells h⟩
            have HR1 : Hid (∀ X, Below wr.heap.size wr X → PidRow X a1 l1) := hid fun X h => hrow1.ext h
            have HR2 : Hid (∀ X, Below wr.heap.size wr X → PidRow X a2 l2) := hid fun X h => hrow2.ext h
            have HM1 := hid hm1
            have HM2' := hid hm2
            have HL12 : Hid (l1.length ≤ 24 ∧ l2.length ≤ 24) := hid ⟨hl124, hl224⟩
            have HFULL2 := hid hfull2
            have HPERM2 := hid (hperm2.trans hperm)
            have HFIT2 : Hid (fitN b (200 - (t + 1)) (joinL L s) = firstF l b) := hid (by rw [HM2.out]; exact hfit)
            have HCSJ := hid hcj
            have HGW := hid hgw
            have HBG := hid hbg
            have HJL := hid hjl
            have HJS := hid hjs
            have HSN : Hid (s < n1) := hid (by omega)
            have HCAP := hid hcap
            clear hfull hperm hfull2 hperm2 hfit hcj hcs hcellj hcells hfrj hownj howns hsgj hgdj hgds hrow1 hrow2 he1 he2 hm1 hm2 hl1 hl2 hl124 hl224 hcap hbg hgw hM h2 hfew HM2 HLL24 HROWL hg0
            go_wp2_with fail
            (with_reducible refine CW.out.mono ?_)
            rintro e w8 ⟨rfl, hb8⟩
            have HB8 : Hid (Below wr.heap.size wr w8) := hid (HB7.out.trans (hb8.mono HB7.out.size))
            clear CW hb8 v1
            go_wp2
            have hjn : j < n1 := by rw [← hn1]; exact HJL.out
            have hsn : s < n1 := HSN.out
            have hbA : Below wr.heap.size wr (w8.drew.alloc (.cells #[] 26)) := HB8.out.drew.alloc (by have := HB8.out.size; simp; omega) _
            have HBD8 : Hid (Below wr.heap.size wr w8.drew) := hid HB8.out.drew
            have HBA := hid hbA
            have kA := (HCJ.out _ hbA).1
            have kAa := (HCJ.out _ (HB8.out.alloc HB8.out.size (.cells #[] 26) : Below wr.heap.size wr (w8.alloc (.cells #[] 26)))).1
            have kB : w8.drew.cell? ⟨g, j, none⟩ = some (.slice a1 m1 c1) := (HCJ.out _ HBD8.out).1
            have HOA : Hid (OwnP (w8.drew.alloc (.cells #[] 26)) w8.heap.size (.slice (some ⟨w8.heap.size, 0, none⟩) 0 0) []) := hid (World.ownsRow_made (w := w8.drew) #[] 0 (Nat.le_refl _) (by unfold maxLen; omega) (by simp))
            have HZA : Hid (w8.heap.size ≤ (w8.drew.alloc (.cells #[] 26)).heap.size) := hid (by simp)
            clear hbA
            refine wp_region_held_drew (S := fun X => X.cell? ⟨g, s, none⟩ = some (.slice a2 m2 c2)) (by kernel_rfl) (by exact (HCJ.out _ HBD8.out).2.2) (fun hHeld => ?_)
            refine wpAnyH_take (i := 0) (oi := _) (v := .slice (some ⟨g, 0, none⟩) n1 c') rfl (by kernel_rfl) (by kernel_rfl) (by kernel_rfl) (fun _ _ _ h => h) (Or.inl ⟨by rfl, ?_⟩) (by assumption) ?_
            · intro W hSw
              try dsimp only at hSw
              go_simp
            try simp only [Act.put, List.getElem_toArray, List.getElem_cons_succ, List.getElem_cons_zero, List.setIfInBounds_toArray, List.set_cons_zero, List.set_cons_succ]
            refine wpAnyH_take (i := 1) (oi := _) (v := .int .i64 (j : Int)) rfl (by kernel_rfl) (by kernel_rfl) (by kernel_rfl) (fun _ _ _ h => h) (Or.inl ⟨by rfl, ?_⟩) (by assumption) ?_
            · intro W hSw
              try dsimp only at hSw
              go_simp
            try simp only [Act.put, List.getElem_toArray, List.getElem_cons_succ, List.getElem_cons_zero, List.setIfInBounds_toArray, List.set_cons_zero, List.set_cons_succ]
            refine wpAnyH_take (i := 3) (oi := _) (v := .slice (some ⟨g, 0, none⟩) n1 c') rfl (by kernel_rfl) (by kernel_rfl) (by kernel_rfl) (fun _ _ _ h => h) (Or.inl ⟨by rfl, ?_⟩) (by assumption) ?_
            · intro W hSw
              try dsimp only at hSw
              go_simp
            try simp only [Act.put, List.getElem_toArray, List.getElem_cons_succ, List.getElem_cons_zero, List.setIfInBounds_toArray, List.set_cons_zero, List.set_cons_succ]
            refine wpAnyH_take (i := 4) (oi := _) (v := .int .i64 (j : Int)) rfl (by kernel_rfl) (by kernel_rfl) (by kernel_rfl) (fun _ _ _ h => h) (Or.inl ⟨by rfl, ?_⟩) (by assumption) ?_
            · intro W hSw
              try dsimp only at hSw
              go_simp
            try simp only [Act.put, List.getElem_toArray, List.getElem_cons_succ, List.getElem_cons_zero, List.setIfInBounds_toArray, List.set_cons_zero, List.set_cons_succ]
            refine wpAnyH_take (i := 5) (oi := _) (v := .pointer (some ⟨g, j, none⟩)) rfl (by kernel_rfl) (by kernel_rfl) (by kernel_rfl) (fun _ _ _ h => h) (Or.inl ⟨by rfl, ?_⟩) (by assumption) ?_
            · intro W hSw
              try dsimp only at hSw
              go_simp
            try simp only [Act.put, List.getElem_toArray, List.getElem_cons_succ, List.getElem_cons_zero, List.setIfInBounds_toArray, List.set_cons_zero, List.set_cons_succ]
            refine wpAnyH_take (i := 8) (oi := _) (v := .slice (some ⟨g, 0, none⟩) n1 c') rfl (by kernel_rfl) (by kernel_rfl) (by kernel_rfl) (fun _ _ _ h => h) (Or.inl ⟨by rfl, ?_⟩) (by assumption) ?_
            · intro W hSw
              try dsimp only at hSw
              go_simp
            try simp only [Act.put, List.getElem_toArray, List.getElem_cons_succ, List.getElem_cons_zero, List.setIfInBounds_toArray, List.set_cons_zero, List.set_cons_succ]
            refine wpAnyH_take (i := 9) (oi := _) (v := .int .i64 (s : Int)) rfl (by kernel_rfl) (by kernel_rfl) (by kernel_rfl) (fun _ _ _ h => h) (Or.inl ⟨by rfl, ?_⟩) (by assumption) ?_
            · intro W hSw
              try dsimp only at hSw
              go_simp
            try simp only [Act.put, List.getElem_toArray, List.getElem_cons_succ, List.getElem_cons_zero, List.setIfInBounds_toArray, List.set_cons_zero, List.set_cons_succ]
            refine wpAnyH_take (i := 10) (oi := _) (v := .pointer (some ⟨g, s, none⟩)) rfl (by kernel_rfl) (by kernel_rfl) (by kernel_rfl) (fun _ _ _ h => h) (Or.inl ⟨by rfl, ?_⟩) (by assumption) ?_
            · intro W hSw
              try dsimp only at hSw
              go_simp
            try simp only [Act.put, List.getElem_toArray, List.getElem_cons_succ, List.getElem_cons_zero, List.setIfInBounds_toArray, List.set_cons_zero, List.set_cons_succ]
            refine wpAnyH_take (i := 11) (oi := _) (v := .slice a2 m2 c2) rfl (by kernel_rfl) (by kernel_rfl) (by kernel_rfl) (fun _ _ _ h => h) (Or.inl ⟨by rfl, ?_⟩) (by assumption) ?_
            · intro W hSw
              try dsimp only at hSw
              go_simp
            try simp only [Act.put, List.getElem_toArray, List.getElem_cons_succ, List.getElem_cons_zero, List.setIfInBounds_toArray, List.set_cons_zero, List.set_cons_succ]
            refine wpAnyH_ready (rs := [2, 6]) (by kernel_rfl) (by simp) ?_
            refine AllReadyH.cons (o := _) rfl (fun K hK => ?_) (AllReadyH.cons (o := _) rfl (fun K hK => ?_) AllReadyH.nil)
            · go_simp
              refine hK.out _ _ ((HCJ.out _ HBA.out).2.2) (fun hHeld => ?_)
              clear hK K
              try simp only [Act.put, List.getElem_toArray, List.getElem_cons_succ, List.getElem_cons_zero, List.setIfInBounds_toArray, List.set_cons_zero, List.set_cons_succ]
              refine wpAnyH_ready (rs := [6]) (by kernel_rfl) (by simp) ?_
              refine AllReadyH.cons (o := _) rfl (fun K hK => ?_) AllReadyH.nil
              go_simp
              refine hK.out _ _ ((HCJ.out _ HBA.out).2.2) (fun hHeld => ?_)
              clear hK K
              try simp only [Act.put, List.getElem_toArray, List.getElem_cons_succ, List.getElem_cons_zero, List.setIfInBounds_toArray, List.set_cons_zero, List.set_cons_succ]
              refine wpAnyH_ready (rs := [7]) (by kernel_rfl) (by simp) ?_
              refine AllReadyH.cons (o := _) rfl (fun K hK => ?_) AllReadyH.nil
              refine step_appendPat (by rfl) HOA.out (HR1.out _ HBA.out) HM1 (by have := HL12.out; have := HM1.out; simp; omega) HZA.out rfl rfl rfl ?_
              intro v9 w9 hown9 hg9 hat9
              simp only [List.nil_append] at hown9
              have HB89 : Hid (Below w8.heap.size w8 w9) := hid (((Below.refl w8.heap.size w8).drew.alloc (Nat.le_refl _) (.cells #[] 26)).grown hg9 HZA.out (fun g hg => (HOA.out.blk hg).1))
              have HB9 := hid (HB8.out.trans (HB89.out.mono HB8.out.size))
              have HO9 := hid hown9
              clear hown9 hg9 hat9 kA kB kAa
              refine hK.out _ _ ((HCJ.out _ HB9.out).2.2) (fun hHeld => ?_)
              clear hK K
              try simp only [Act.put, List.getElem_toArray, List.getElem_cons_succ, List.getElem_cons_zero, List.setIfInBounds_toArray, List.set_cons_zero, List.set_cons_succ]
              refine wpAnyH_ready (rs := [12]) (by kernel_rfl) (by simp) ?_
              refine AllReadyH.cons (o := _) rfl (fun K hK => ?_) AllReadyH.nil
              refine step_appendPat (by rfl) HO9.out (HR2.out _ HB9.out) HM2' (by have := HL12.out; have := HM2'.out; omega) HB89.out.size rfl rfl rfl ?_
              intro v10 w10 hown10 hg10 hat10
              have HB810 : Hid (Below w8.heap.size w8 w10) := hid (HB89.out.grown hg10 HB89.out.size (fun g hg => (HO9.out.blk hg).1))
              have HB10 := hid (HB8.out.trans (HB810.out.mono HB8.out.size))
              obtain ⟨a10, c10, e10, -, -, -, hbk10⟩ := hown10.sl
              obtain ⟨m10, hm10⟩ : ∃ m, (l1 ++ l2).length = m := ⟨_, rfl⟩
              rw [hm10] at e10 hbk10
              subst e10
              obtain ⟨k10, f10, s10⟩ := HCJ.out _ HB10.out
              have HO10 := hid hown10
              have HBK10 := hid hbk10
              clear hown10 hg10 hat10 hbk10 hm10 s10
              refine hK.out _ _ ((HCJ.out _ HB10.out).2.2) (fun hHeld => ?_)
              clear hK K
              try simp only [Act.put, List.getElem_toArray, List.getElem_cons_succ, List.getElem_cons_zero, List.setIfInBounds_toArray, List.set_cons_zero, List.set_cons_succ]
              refine wpAnyH_ready (rs := [13]) (by kernel_rfl) (by simp) ?_
              refine AllReadyH.cons (o := _) rfl (fun K hK => ?_) AllReadyH.nil
              go_simp
              refine hK.out _ _ ((HCJ.out _ HB10.out).2.2) (fun hHeld => ?_)
              clear hK K
              try simp only [Act.put, List.getElem_toArray, List.getElem_cons_succ, List.getElem_cons_zero, List.setIfInBounds_toArray, List.set_cons_zero, List.set_cons_succ]
              have hs11 : (w10.setCell ⟨g, j, none⟩ (.slice a10 m10 c10)).cell? ⟨g, s, none⟩ = some (.slice a2 m2 c2) := (off2t (by have := HJS.out; omega)).trans (HCJ.out _ HB10.out).2.2
              refine wpAnyH_ready (rs := [14]) (by kernel_rfl) (by simp) ?_
              refine AllReadyH.cons (o := _) rfl (fun K hK => ?_) AllReadyH.nil
              go_simp
              refine hK.out _ _ hs11 (fun hHeld => ?_)
              clear hK K
              try simp only [Act.put, List.getElem_toArray, List.getElem_cons_succ, List.getElem_cons_zero, List.setIfInBounds_toArray, List.set_cons_zero, List.set_cons_succ]
              refine wpAnyH_done (by kernel_rfl) ?_ _
              obtain ⟨css, hcss⟩ : ∃ x, cs.set j (a10, m10, c10) = x := ⟨_, rfl⟩
              obtain ⟨LJ, hLJ⟩ : ∃ x, L.set j (l1 ++ l2) = x := ⟨_, rfl⟩
              obtain ⟨wp, hwp⟩ : ∃ x, w10.setCell ⟨g, j, none⟩ (.slice a10 m10 c10) = x := ⟨_, rfl⟩
              have HLJ : Hid (LLs wp w4.heap.size (.slice (some ⟨g, 0, none⟩) n1 c') css LJ) := hid (by
                rw [← hcss, ← hLJ, ← hwp]
                exact join_put HB.out HOWN.out hn1 HJL.out HCSJ.out HB10.out HO10.out (fun p hp => by have := (HBK10.out p hp).1; have := HB8.out.size; omega))
              have HLJN : Hid (LJ.length = n1) := hid (by rw [← hLJ, List.length_set]; exact hn1)
              have HBP : Hid (Below w4.heap.size w4 wp) := hid (by rw [← hwp]; exact below_set (HB.out.trans (HB10.out.mono HB.out.size)) HBG.out)
              rw [hLJ] at HJO
              have hcl : css.length = n1 := HLJ.out.len.trans HLJN.out
              have hcells := HLJ.out.cells HLJN.out
              have U3 : ∀ W, (Instr.slice 31 (.slice (some ⟨g, 0, none⟩) n1 c') none (some (.int .i64 s)) none).run Try.prog W = .ok (.slice (some ⟨g, 0, none⟩) s c') W := fun W => run_uptoL (by have := HSN.out; have := HCAP.out; omega) (by have := HSN.out; have := HCAP.out; omega) W
              obtain ⟨A8, hA8⟩ : ∃ x, (if c' = s + 1 then (some ⟨g, 0, none⟩ : Option Addr) else some ⟨g, s + 1, none⟩) = x := ⟨_, rfl⟩
              obtain ⟨N8, hN8⟩ : ∃ x, n1 - (s + 1) = x := ⟨_, rfl⟩
              obtain ⟨K8, hK8⟩ : ∃ x, c' - (s + 1) = x := ⟨_, rfl⟩
              have U4 : ∀ W, (Instr.slice 31 (.slice (some ⟨g, 0, none⟩) n1 c') (some (.int .i64 ((s : Int) + 1))) none none).run Try.prog W = .ok (.slice A8 N8 K8) W := fun W => by rw [run_fromL (by have := HSN.out; omega) W, hA8, hN8, hK8]
              have hwk : IntKind.i64.wrap ((s : Int) + 1) = (s : Int) + 1 := by rw [IntKind.wrap_i64]; have := HSN.out; omega
              have HTK : Hid (∀ X, Below wp.heap.size wp X → (css.take s).length = s ∧ ((css.take s) = [] ∨ ∃ g' off, (some ⟨g, 0, none⟩ : Option Addr) = some ⟨g', off, none⟩ ∧ ∀ j (hj : j < (css.take s).length), X.cell? ⟨g', off + j, none⟩ = some (encS (css.take s)[j]))) := hid fun X h => ⟨by rw [List.length_take, hcl]; have := HSN.out; omega, .inr ⟨g, 0, rfl, fun j hj => by
                rw [List.length_take] at hj
                rw [List.getElem_take, Nat.zero_add]
                exact cell_to (hcells j (by omega)) h⟩⟩
              have HDR : Hid (∀ X, Below wp.heap.size wp X → (css.drop (s + 1)).length = N8 ∧ ((css.drop (s + 1)) = [] ∨ ∃ g' off, A8 = some ⟨g', off, none⟩ ∧ ∀ j (hj : j < (css.drop (s + 1)).length), X.cell? ⟨g', off + j, none⟩ = some (encS (css.drop (s + 1))[j]))) := hid fun X h => ⟨by rw [List.length_drop, hcl, hN8], by
                by_cases hlast : n1 ≤ s + 1
                · exact .inl (List.drop_eq_nil_of_le (by omega))
                · refine .inr ⟨g, s + 1, ?_, fun j hj => ?_⟩
                  · rw [← hA8, if_neg (by have := HCAP.out; omega)]
                  · rw [List.length_drop] at hj
                    rw [List.getElem_drop]
                    exact cell_to (hcells (s + 1 + j) (by omega)) h⟩
              have HN8 : Hid (N8 ≤ 24 ∧ s ≤ 24) := hid (by have := HSN.out; omega)
              clear k10 f10 hs11 hcss hLJ hcl hcells hA8 hN8 hK8
              go_wp2
              refine wp_region_held_drew (S := fun _ => True) (by kernel_rfl) (trivial) (fun hHeld => ?_)
              refine wpAnyH_take (i := 1) (oi := _) (v := .slice (some ⟨g, 0, none⟩) n1 c') rfl (by kernel_rfl) (by kernel_rfl) (by kernel_rfl) (fun _ _ _ h => h) (Or.inl ⟨by rfl, ?_⟩) (by assumption) ?_
              · intro W hSw
                try dsimp only at hSw
                go_simp
              try simp only [Act.put, List.getElem_toArray, List.getElem_cons_succ, List.getElem_cons_zero, List.setIfInBounds_toArray, List.set_cons_zero, List.set_cons_succ]
              refine wpAnyH_take (i := 2) (oi := _) (v := .int .i64 (s : Int)) rfl (by kernel_rfl) (by kernel_rfl) (by kernel_rfl) (fun _ _ _ h => h) (Or.inl ⟨by rfl, ?_⟩) (by assumption) ?_
              · intro W hSw
                try dsimp only at hSw
                go_simp
              try simp only [Act.put, List.getElem_toArray, List.getElem_cons_succ, List.getElem_cons_zero, List.setIfInBounds_toArray, List.set_cons_zero, List.set_cons_succ]
              refine wpAnyH_take (i := 3) (oi := _) (v := .slice (some ⟨g, 0, none⟩) s c') rfl (by kernel_rfl) (by kernel_rfl) (by kernel_rfl) (fun _ _ _ h => h) (Or.inl ⟨by rfl, ?_⟩) (by assumption) ?_
              · intro W hSw
                try dsimp only at hSw
                go_simp
              try simp only [Act.put, List.getElem_toArray, List.getElem_cons_succ, List.getElem_cons_zero, List.setIfInBounds_toArray, List.set_cons_zero, List.set_cons_succ]
              refine wpAnyH_take (i := 5) (oi := _) (v := .slice (some ⟨g, 0, none⟩) n1 c') rfl (by kernel_rfl) (by kernel_rfl) (by kernel_rfl) (fun _ _ _ h => h) (Or.inl ⟨by rfl, ?_⟩) (by assumption) ?_
              · intro W hSw
                try dsimp only at hSw
                go_simp
              try simp only [Act.put, List.getElem_toArray, List.getElem_cons_succ, List.getElem_cons_zero, List.setIfInBounds_toArray, List.set_cons_zero, List.set_cons_succ]
              refine wpAnyH_take (i := 6) (oi := _) (v := .int .i64 (s : Int)) rfl (by kernel_rfl) (by kernel_rfl) (by kernel_rfl) (fun _ _ _ h => h) (Or.inl ⟨by rfl, ?_⟩) (by assumption) ?_
              · intro W hSw
                try dsimp only at hSw
                go_simp
              try simp only [Act.put, List.getElem_toArray, List.getElem_cons_succ, List.getElem_cons_zero, List.setIfInBounds_toArray, List.set_cons_zero, List.set_cons_succ]
              refine wpAnyH_take (i := 7) (oi := _) (v := .int .i64 ((s : Int) + 1)) rfl (by kernel_rfl) (by kernel_rfl) (by kernel_rfl) (fun _ _ _ h => h) (Or.inl ⟨by rfl, ?_⟩) (by assumption) ?_
              · intro W hSw
                try dsimp only at hSw
                go_simp
              try simp only [Act.put, List.getElem_toArray, List.getElem_cons_succ, List.getElem_cons_zero, List.setIfInBounds_toArray, List.set_cons_zero, List.set_cons_succ]
              refine wpAnyH_take (i := 8) (oi := _) (v := .slice A8 N8 K8) rfl (by kernel_rfl) (by kernel_rfl) (by kernel_rfl) (fun _ _ _ h => h) (Or.inl ⟨by rfl, ?_⟩) (by assumption) ?_
              · intro W hSw
                try dsimp only at hSw
                go_simp
              try simp only [Act.put, List.getElem_toArray, List.getElem_cons_succ, List.getElem_cons_zero, List.setIfInBounds_toArray, List.set_cons_zero, List.set_cons_succ]
              have HOS : Hid ((wp.drew.alloc (.cells #[] 30)).ownsRow wp.heap.size 30 1 (.slice (some ⟨wp.heap.size, 0, none⟩) 0 0) ([] : List Sl).length (([] : List Sl).map encS)) := hid (World.ownsRow_made (w := wp.drew) #[] 0 (Nat.le_refl _) (by unfold maxLen; omega) (by simp))
              have hbq : Below wp.heap.size wp (wp.drew.alloc (.cells #[] 30)) := (Below.refl wp.heap.size wp).drew.alloc (Nat.le_refl _) _
              have HBQ := hid hbq
              clear hbq U3 U4 hwk
              refine wpAnyH_ready (rs := [0]) (by kernel_rfl) (by simp) ?_
              refine AllReadyH.cons (o := _) rfl (fun K hK => ?_) AllReadyH.nil
              go_simp
              refine hK.out _ _ trivial (fun hHeld => ?_)
              clear hK K
              try simp only [Act.put, List.getElem_toArray, List.getElem_cons_succ, List.getElem_cons_zero, List.setIfInBounds_toArray, List.set_cons_zero, List.set_cons_succ]
              refine wpAnyH_ready (rs := [4]) (by kernel_rfl) (by simp) ?_
              refine AllReadyH.cons (o := _) rfl (fun K hK => ?_) AllReadyH.nil
              refine step_appendSs (cs := []) (ds := css.take s) (by rfl) HOS.out (HTK.out _ HBQ.out).1 (HTK.out _ HBQ.out).2 (by have := HN8.out; simp; omega) HBQ.out.size rfl rfl rfl ?_
              intro v41 w41 hown41 hg41
              have HB41 := hid (HBQ.out.grown hg41 HBQ.out.size (fun g hg => (World.ownsRow.lt HOS.out g hg).1))
              rw [List.nil_append] at hown41
              have HO41 := hid hown41
              clear hown41 hg41
              refine hK.out _ _ trivial (fun hHeld => ?_)
              clear hK K
              try simp only [Act.put, List.getElem_toArray, List.getElem_cons_succ, List.getElem_cons_zero, List.setIfInBounds_toArray, List.set_cons_zero, List.set_cons_succ]
              refine wpAnyH_ready (rs := [9]) (by kernel_rfl) (by simp) ?_
              refine AllReadyH.cons (o := _) rfl (fun K hK => ?_) AllReadyH.nil
              refine step_appendSs (cs := css.take s) (ds := css.drop (s + 1)) (by rfl) HO41.out (HDR.out _ HB41.out).1 (HDR.out _ HB41.out).2 (by have := HN8.out; have := (HTK.out _ HB41.out).1; omega) HB41.out.size rfl rfl rfl ?_
              intro v42 w42 hown42 hg42
              have HB42 := hid (HB41.out.grown hg42 HB41.out.size (fun g hg => (World.ownsRow.lt HO41.out g hg).1))
              rw [take_drop_erase] at hown42
              have HL42 := hid (HLJ.out.erased HBP.out.size HB42.out hown42)
              have HBE := hid (HBP.out.trans (HB42.out.mono HBP.out.size))
              clear hown42 hg42
              refine hK.out _ _ trivial (fun hHeld => ?_)
              clear hK K
              try simp only [Act.put, List.getElem_toArray, List.getElem_cons_succ, List.getElem_cons_zero, List.setIfInBounds_toArray, List.set_cons_zero, List.set_cons_succ]
              refine wpAnyH_ready (rs := [10]) (by kernel_rfl) (by simp) ?_
              refine AllReadyH.cons (o := _) rfl (fun K hK => ?_) AllReadyH.nil
              go_simp
              refine hK.out _ _ trivial (fun hHeld => ?_)
              clear hK K
              try simp only [Act.put, List.getElem_toArray, List.getElem_cons_succ, List.getElem_cons_zero, List.setIfInBounds_toArray, List.set_cons_zero, List.set_cons_succ]
              refine wpAnyH_done (by kernel_rfl) ?_ _
              go_wp2
              go_roundw
              case rel => exact ⟨t + 1, joinL L s, _, by go_num, by omega, by rw [HJO.out]; exact HL42.out, HFULL2.out, HPERM2.out, HFIT2.out, HBE.out⟩
              case measure => simp [intOf]; omega
            · go_simp
              refine hK.out _ _ ((HCJ.out _ HBD8.out).2.2) (fun hHeld => ?_)
              clear hK K
              try simp only [Act.put, List.getElem_toArray, List.getElem_cons_succ, List.getElem_cons_zero, List.setIfInBounds_toArray, List.set_cons_zero, List.set_cons_succ]
              refine wpAnyH_ready (rs := [2]) (by kernel_rfl) (by simp) ?_
              refine AllReadyH.cons (o := _) rfl (fun K hK => ?_) AllReadyH.nil
              go_simp
              refine hK.out _ _ ((HCJ.out _ HBA.out).2.2) (fun hHeld => ?_)
              clear hK K
              try simp only [Act.put, List.getElem_toArray, List.getElem_cons_succ, List.getElem_cons_zero, List.setIfInBounds_toArray, List.set_cons_zero, List.set_cons_succ]
              refine wpAnyH_ready (rs := [7]) (by kernel_rfl) (by simp) ?_
              refine AllReadyH.cons (o := _) rfl (fun K hK => ?_) AllReadyH.nil
              refine step_appendPat (by rfl) HOA.out (HR1.out _ HBA.out) HM1 (by have := HL12.out; have := HM1.out; simp; omega) HZA.out rfl rfl rfl ?_
              intro v9 w9 hown9 hg9 hat9
              simp only [List.nil_append] at hown9
              have HB89 : Hid (Below w8.heap.size w8 w9) := hid (((Below.refl w8.heap.size w8).drew.alloc (Nat.le_refl _) (.cells #[] 26)).grown hg9 HZA.out (fun g hg => (HOA.out.blk hg).1))
              have HB9 := hid (HB8.out.trans (HB89.out.mono HB8.out.size))
              have HO9 := hid hown9
              clear hown9 hg9 hat9 kA kB kAa
              refine hK.out _ _ ((HCJ.out _ HB9.out).2.2) (fun hHeld => ?_)
              clear hK K
              try simp only [Act.put, List.getElem_toArray, List.getElem_cons_succ, List.getElem_cons_zero, List.setIfInBounds_toArray, List.set_cons_zero, List.set_cons_succ]
              refine wpAnyH_ready (rs := [12]) (by kernel_rfl) (by simp) ?_
              refine AllReadyH.cons (o := _) rfl (fun K hK => ?_) AllReadyH.nil
              refine step_appendPat (by rfl) HO9.out (HR2.out _ HB9.out) HM2' (by have := HL12.out; have := HM2'.out; omega) HB89.out.size rfl rfl rfl ?_
              intro v10 w10 hown10 hg10 hat10
              have HB810 : Hid (Below w8.heap.size w8 w10) := hid (HB89.out.grown hg10 HB89.out.size (fun g hg => (HO9.out.blk hg).1))
              have HB10 := hid (HB8.out.trans (HB810.out.mono HB8.out.size))
              obtain ⟨a10, c10, e10, -, -, -, hbk10⟩ := hown10.sl
              obtain ⟨m10, hm10⟩ : ∃ m, (l1 ++ l2).length = m := ⟨_, rfl⟩
              rw [hm10] at e10 hbk10
              subst e10
              obtain ⟨k10, f10, s10⟩ := HCJ.out _ HB10.out
              have HO10 := hid hown10
              have HBK10 := hid hbk10
              clear hown10 hg10 hat10 hbk10 hm10 s10
              refine hK.out _ _ ((HCJ.out _ HB10.out).2.2) (fun hHeld => ?_)
              clear hK K
              try simp only [Act.put, List.getElem_toArray, List.getElem_cons_succ, List.getElem_cons_zero, List.setIfInBounds_toArray, List.set_cons_zero, List.set_cons_succ]
              refine wpAnyH_ready (rs := [13]) (by kernel_rfl) (by simp) ?_
              refine AllReadyH.cons (o := _) rfl (fun K hK => ?_) AllReadyH.nil
              go_simp
              refine hK.out _ _ ((HCJ.out _ HB10.out).2.2) (fun hHeld => ?_)
              clear hK K
              try simp only [Act.put, List.getElem_toArray, List.getElem_cons_succ, List.getElem_cons_zero, List.setIfInBounds_toArray, List.set_cons_zero, List.set_cons_succ]
              have hs11 : (w10.setCell ⟨g, j, none⟩ (.slice a10 m10 c10)).cell? ⟨g, s, none⟩ = some (.slice a2 m2 c2) := (off2t (by have := HJS.out; omega)).trans (HCJ.out _ HB10.out).2.2
              refine wpAnyH_ready (rs := [14]) (by kernel_rfl) (by simp) ?_
              refine AllReadyH.cons (o := _) rfl (fun K hK => ?_) AllReadyH.nil
              go_simp
              refine hK.out _ _ hs11 (fun hHeld => ?_)
              clear hK K
              try simp only [Act.put, List.getElem_toArray, List.getElem_cons_succ, List.getElem_cons_zero, List.setIfInBounds_toArray, List.set_cons_zero, List.set_cons_succ]
              refine wpAnyH_done (by kernel_rfl) ?_ _
              obtain ⟨css, hcss⟩ : ∃ x, cs.set j (a10, m10, c10) = x := ⟨_, rfl⟩
              obtain ⟨LJ, hLJ⟩ : ∃ x, L.set j (l1 ++ l2) = x := ⟨_, rfl⟩
              obtain ⟨wp, hwp⟩ : ∃ x, w10.setCell ⟨g, j, none⟩ (.slice a10 m10 c10) = x := ⟨_, rfl⟩
              have HLJ : Hid (LLs wp w4.heap.size (.slice (some ⟨g, 0, none⟩) n1 c') css LJ) := hid (by
                rw [← hcss, ← hLJ, ← hwp]
                exact join_put HB.out HOWN.out hn1 HJL.out HCSJ.out HB10.out HO10.out (fun p hp => by have := (HBK10.out p hp).1; have := HB8.out.size; omega))
              have HLJN : Hid (LJ.length = n1) := hid (by rw [← hLJ, List.length_set]; exact hn1)
              have HBP : Hid (Below w4.heap.size w4 wp) := hid (by rw [← hwp]; exact below_set (HB.out.trans (HB10.out.mono HB.out.size)) HBG.out)
              rw [hLJ] at HJO
              have hcl : css.length = n1 := HLJ.out.len.trans HLJN.out
              have hcells := HLJ.out.cells HLJN.out
              have U3 : ∀ W, (Instr.slice 31 (.slice (some ⟨g, 0, none⟩) n1 c') none (some (.int .i64 s)) none).run Try.prog W = .ok (.slice (some ⟨g, 0, none⟩) s c') W := fun W => run_uptoL (by have := HSN.out; have := HCAP.out; omega) (by have := HSN.out; have := HCAP.out; omega) W
              obtain ⟨A8, hA8⟩ : ∃ x, (if c' = s + 1 then (some ⟨g, 0, none⟩ : Option Addr) else some ⟨g, s + 1, none⟩) = x := ⟨_, rfl⟩
              obtain ⟨N8, hN8⟩ : ∃ x, n1 - (s + 1) = x := ⟨_, rfl⟩
              obtain ⟨K8, hK8⟩ : ∃ x, c' - (s + 1) = x := ⟨_, rfl⟩
              have U4 : ∀ W, (Instr.slice 31 (.slice (some ⟨g, 0, none⟩) n1 c') (some (.int .i64 ((s : Int) + 1))) none none).run Try.prog W = .ok (.slice A8 N8 K8) W := fun W => by rw [run_fromL (by have := HSN.out; omega) W, hA8, hN8, hK8]
              have hwk : IntKind.i64.wrap ((s : Int) + 1) = (s : Int) + 1 := by rw [IntKind.wrap_i64]; have := HSN.out; omega
              have HTK : Hid (∀ X, Below wp.heap.size wp X → (css.take s).length = s ∧ ((css.take s) = [] ∨ ∃ g' off, (some ⟨g, 0, none⟩ : Option Addr) = some ⟨g', off, none⟩ ∧ ∀ j (hj : j < (css.take s).length), X.cell? ⟨g', off + j, none⟩ = some (encS (css.take s)[j]))) := hid fun X h => ⟨by rw [List.length_take, hcl]; have := HSN.out; omega, .inr ⟨g, 0, rfl, fun j hj => by
                rw [List.length_take] at hj
                rw [List.getElem_take, Nat.zero_add]
                exact cell_to (hcells j (by omega)) h⟩⟩
              have HDR : Hid (∀ X, Below wp.heap.size wp X → (css.drop (s + 1)).length = N8 ∧ ((css.drop (s + 1)) = [] ∨ ∃ g' off, A8 = some ⟨g', off, none⟩ ∧ ∀ j (hj : j < (css.drop (s + 1)).length), X.cell? ⟨g', off + j, none⟩ = some (encS (css.drop (s + 1))[j]))) := hid fun X h => ⟨by rw [List.length_drop, hcl, hN8], by
                by_cases hlast : n1 ≤ s + 1
                · exact .inl (List.drop_eq_nil_of_le (by omega))
                · refine .inr ⟨g, s + 1, ?_, fun j hj => ?_⟩
                  · rw [← hA8, if_neg (by have := HCAP.out; omega)]
                  · rw [List.length_drop] at hj
                    rw [List.getElem_drop]
                    exact cell_to (hcells (s + 1 + j) (by omega)) h⟩
              have HN8 : Hid (N8 ≤ 24 ∧ s ≤ 24) := hid (by have := HSN.out; omega)
              clear k10 f10 hs11 hcss hLJ hcl hcells hA8 hN8 hK8
              go_wp2
              refine wp_region_held_drew (S := fun _ => True) (by kernel_rfl) (trivial) (fun hHeld => ?_)
              refine wpAnyH_take (i := 1) (oi := _) (v := .slice (some ⟨g, 0, none⟩) n1 c') rfl (by kernel_rfl) (by kernel_rfl) (by kernel_rfl) (fun _ _ _ h => h) (Or.inl ⟨by rfl, ?_⟩) (by assumption) ?_
              · intro W hSw
                try dsimp only at hSw
                go_simp
              try simp only [Act.put, List.getElem_toArray, List.getElem_cons_succ, List.getElem_cons_zero, List.setIfInBounds_toArray, List.set_cons_zero, List.set_cons_succ]
              refine wpAnyH_take (i := 2) (oi := _) (v := .int .i64 (s : Int)) rfl (by kernel_rfl) (by kernel_rfl) (by kernel_rfl) (fun _ _ _ h => h) (Or.inl ⟨by rfl, ?_⟩) (by assumption) ?_
              · intro W hSw
                try dsimp only at hSw
                go_simp
              try simp only [Act.put, List.getElem_toArray, List.getElem_cons_succ, List.getElem_cons_zero, List.setIfInBounds_toArray, List.set_cons_zero, List.set_cons_succ]
              refine wpAnyH_take (i := 3) (oi := _) (v := .slice (some ⟨g, 0, none⟩) s c') rfl (by kernel_rfl) (by kernel_rfl) (by kernel_rfl) (fun _ _ _ h => h) (Or.inl ⟨by rfl, ?_⟩) (by assumption) ?_
              · intro W hSw
                try dsimp only at hSw
                go_simp
              try simp only [Act.put, List.getElem_toArray, List.getElem_cons_succ, List.getElem_cons_zero, List.setIfInBounds_toArray, List.set_cons_zero, List.set_cons_succ]
              refine wpAnyH_take (i := 5) (oi := _) (v := .slice (some ⟨g, 0, none⟩) n1 c') rfl (by kernel_rfl) (by kernel_rfl) (by kernel_rfl) (fun _ _ _ h => h) (Or.inl ⟨by rfl, ?_⟩) (by assumption) ?_
              · intro W hSw
                try dsimp only at hSw
                go_simp
              try simp only [Act.put, List.getElem_toArray, List.getElem_cons_succ, List.getElem_cons_zero, List.setIfInBounds_toArray, List.set_cons_zero, List.set_cons_succ]
              refine wpAnyH_take (i := 6) (oi := _) (v := .int .i64 (s : Int)) rfl (by kernel_rfl) (by kernel_rfl) (by kernel_rfl) (fun _ _ _ h => h) (Or.inl ⟨by rfl, ?_⟩) (by assumption) ?_
              · intro W hSw
                try dsimp only at hSw
                go_simp
              try simp only [Act.put, List.getElem_toArray, List.getElem_cons_succ, List.getElem_cons_zero, List.setIfInBounds_toArray, List.set_cons_zero, List.set_cons_succ]
              refine wpAnyH_take (i := 7) (oi := _) (v := .int .i64 ((s : Int) + 1)) rfl (by kernel_rfl) (by kernel_rfl) (by kernel_rfl) (fun _ _ _ h => h) (Or.inl ⟨by rfl, ?_⟩) (by assumption) ?_
              · intro W hSw
                try dsimp only at hSw
                go_simp
              try simp only [Act.put, List.getElem_toArray, List.getElem_cons_succ, List.getElem_cons_zero, List.setIfInBounds_toArray, List.set_cons_zero, List.set_cons_succ]
              refine wpAnyH_take (i := 8) (oi := _) (v := .slice A8 N8 K8) rfl (by kernel_rfl) (by kernel_rfl) (by kernel_rfl) (fun _ _ _ h => h) (Or.inl ⟨by rfl, ?_⟩) (by assumption) ?_
              · intro W hSw
                try dsimp only at hSw
                go_simp
              try simp only [Act.put, List.getElem_toArray, List.getElem_cons_succ, List.getElem_cons_zero, List.setIfInBounds_toArray, List.set_cons_zero, List.set_cons_succ]
              have HOS : Hid ((wp.drew.alloc (.cells #[] 30)).ownsRow wp.heap.size 30 1 (.slice (some ⟨wp.heap.size, 0, none⟩) 0 0) ([] : List Sl).length (([] : List Sl).map encS)) := hid (World.ownsRow_made (w := wp.drew) #[] 0 (Nat.le_refl _) (by unfold maxLen; omega) (by simp))
              have hbq : Below wp.heap.size wp (wp.drew.alloc (.cells #[] 30)) := (Below.refl wp.heap.size wp).drew.alloc (Nat.le_refl _) _
              have HBQ := hid hbq
              clear hbq U3 U4 hwk
              refine wpAnyH_ready (rs := [0]) (by kernel_rfl) (by simp) ?_
              refine AllReadyH.cons (o := _) rfl (fun K hK => ?_) AllReadyH.nil
              go_simp
              refine hK.out _ _ trivial (fun hHeld => ?_)
              clear hK K
              try simp only [Act.put, List.getElem_toArray, List.getElem_cons_succ, List.getElem_cons_zero, List.setIfInBounds_toArray, List.set_cons_zero, List.set_cons_succ]
              refine wpAnyH_ready (rs := [4]) (by kernel_rfl) (by simp) ?_
              refine AllReadyH.cons (o := _) rfl (fun K hK => ?_) AllReadyH.nil
              refine step_appendSs (cs := []) (ds := css.take s) (by rfl) HOS.out (HTK.out _ HBQ.out).1 (HTK.out _ HBQ.out).2 (by have := HN8.out; simp; omega) HBQ.out.size rfl rfl rfl ?_
              intro v41 w41 hown41 hg41
              have HB41 := hid (HBQ.out.grown hg41 HBQ.out.size (fun g hg => (World.ownsRow.lt HOS.out g hg).1))
              rw [List.nil_append] at hown41
              have HO41 := hid hown41
              clear hown41 hg41
              refine hK.out _ _ trivial (fun hHeld => ?_)
              clear hK K
              try simp only [Act.put, List.getElem_toArray, List.getElem_cons_succ, List.getElem_cons_zero, List.setIfInBounds_toArray, List.set_cons_zero, List.set_cons_succ]
              refine wpAnyH_ready (rs := [9]) (by kernel_rfl) (by simp) ?_
              refine AllReadyH.cons (o := _) rfl (fun K hK => ?_) AllReadyH.nil
              refine step_appendSs (cs := css.take s) (ds := css.drop (s + 1)) (by rfl) HO41.out (HDR.out _ HB41.out).1 (HDR.out _ HB41.out).2 (by have := HN8.out; have := (HTK.out _ HB41.out).1; omega) HB41.out.size rfl rfl rfl ?_
              intro v42 w42 hown42 hg42
              have HB42 := hid (HB41.out.grown hg42 HB41.out.size (fun g hg => (World.ownsRow.lt HO41.out g hg).1))
              rw [take_drop_erase] at hown42
              have HL42 := hid (HLJ.out.erased HBP.out.size HB42.out hown42)
              have HBE := hid (HBP.out.trans (HB42.out.mono HBP.out.size))
              clear hown42 hg42
              refine hK.out _ _ trivial (fun hHeld => ?_)
              clear hK K
              try simp only [Act.put, List.getElem_toArray, List.getElem_cons_succ, List.getElem_cons_zero, List.setIfInBounds_toArray, List.set_cons_zero, List.set_cons_succ]
              refine wpAnyH_ready (rs := [10]) (by kernel_rfl) (by simp) ?_
              refine AllReadyH.cons (o := _) rfl (fun K hK => ?_) AllReadyH.nil
              go_simp
              refine hK.out _ _ trivial (fun hHeld => ?_)
              clear hK K
              try simp only [Act.put, List.getElem_toArray, List.getElem_cons_succ, List.getElem_cons_zero, List.setIfInBounds_toArray, List.set_cons_zero, List.set_cons_succ]
              refine wpAnyH_done (by kernel_rfl) ?_ _
              go_wp2
              go_roundw
              case rel => exact ⟨t + 1, joinL L s, _, by go_num, by omega, by rw [HJO.out]; exact HL42.out, HFULL2.out, HPERM2.out, HFIT2.out, HBE.out⟩
              case measure => simp [intOf]; omega
        case rest =>
          obtain ⟨cs, hown, hb⟩ := hcut
          rename World => wf
          have hparts := parts_fit HBC.out HPW.out (by rw [hn.out]; exact HN24.out)
          have hve := build_0 hV.out HPW.out (by rw [hn.out]; exact HN0.out) (by rw [hn.out]; exact HN24.out)
          clear HLD HBD HOKA hV
          obtain ⟨F, hF⟩ : ∃ F, firstF l b = F := ⟨_, rfl⟩
          rw [hF] at hown hparts hve
          have hFt : total F ≤ 24 := by have := hparts.perm.length_eq; rw [total_flat, hn.out] at this; have := HN24.out; omega
          have hFn : F.length ≤ 24 := by have := full_len hparts.full; omega
          have hFl : ∀ y1 ∈ F, y1.length ≤ 24 := fun y1 h => by have := lens_total F y1 h; omega
          obtain ⟨N, hN⟩ : ∃ N, F.length = N := ⟨_, rfl⟩
          rw [hN] at hFn
          obtain ⟨a', c', he, hrowF⟩ := hown.row
          rw [hN] at he
          subst he
          obtain ⟨ht1, ht2⟩ := tail_ok hparts
          rw [hn.out] at ht1 ht2
          obtain ⟨OR, hOR⟩ : ∃ x, ordR l F = x := ⟨_, rfl⟩
          rw [hOR] at ht1 ht2 hve
          obtain ⟨LE, hLE⟩ : ∃ x, leadersL l (heads OR) = x := ⟨_, rfl⟩
          rw [hLE] at ht2 hve
          have HVE := hid hve
          clear hve
          have HT1 := hid ht1
          have HT2 := hid ht2
          have HN := hid hN
          have HFN := hid hFn
          have hN24' := hFn
          have HFL := hid hFl
          have HBF := hid hb
          have HFR : Hid (∀ X, Below wf.heap.size wf X → LeafRow X a' F) := hid fun X h => hrowF.ext h
          have HORL : Hid (∀ y1 ∈ OR, y1.length ≤ 24) := hid fun y1 h => by
            rw [← hOR] at h
            obtain ⟨l', hl', rfl⟩ := hparts.ord_mem h
            have : (commonP l l').length ≤ l.length := List.length_filter_le _ _
            rw [hn.out] at this
            have := HN24.out
            omega
          have HORN : Hid (OR.length ≤ 24) := hid (by
            rw [← hOR, hparts.ord_perm.length_eq, List.length_map, hN]; exact hFn)
          have HLEL : Hid (LE.length ≤ 24) := hid (by
            rw [← hLE]
            have : (leadersL l (heads OR)).length ≤ l.length := List.length_filter_le _ _
            rw [hn.out] at this
            have := HN24.out
            omega)
          clear hparts hF hFt hFn hFl hN hrowF hown hb ht1 ht2 hOR hLE
          obtain ⟨Z, hZ⟩ : ∃ Z, madeCells #[.bool false] n = Z := ⟨_, rfl⟩
          obtain ⟨W7, hW7⟩ : ∃ W7, wf.alloc (.cells #[.int .u64 1, .slice a4 n c4, .slice none 0 0, .slice none 0 0] 33) = W7 := ⟨_, rfl⟩
          have hmk := run_makeBo W7 n (by omega)
          rw [hZ] at hmk
          have hvb : wf.heap.size = wf.heap.size := rfl
          have hz7 : W7.heap.size = wf.heap.size + 1 := by rw [← hW7]; simp
          obtain ⟨W8, hW8⟩ : ∃ W8, W7.alloc (.cells Z 4) = W8 := ⟨_, rfl⟩
          rw [hz7, hW8, ← hW7] at hmk
          have hb7 : Below wf.heap.size wf W7 := by rw [← hW7]; exact (Below.refl _ _).alloc (Nat.le_refl _) _
          have hb78 : Below W7.heap.size W7 W8 := by rw [← hW8]; exact (Below.refl _ _).alloc (Nat.le_refl _) _
          have hz8 : W8.heap.size = wf.heap.size + 2 := by rw [← hW8]; simp [hz7]
          have hbx : BoxV W8 wf.heap.size (.int .u64 1) (.slice a4 n c4) (.slice none 0 0) (.slice none 0 0) := by
            have := (BoxV.made wf 33 (.int .u64 1) (.slice a4 n c4) (.slice none 0 0) (.slice none 0 0))
            rw [hW7] at this
            exact this.ext hb78
          have hfl : BoolR W8 (wf.heap.size + 1) (List.replicate n false) := by
            have := BoolR.made W7 n
            rw [hZ, hW8, hz7] at this
            exact this
          have hrep : (tTo l F 0).fl = List.replicate n false := by unfold tTo; rw [hn.out]; rfl
          have HST0 : Hid (TSt W8 wf.heap.size (wf.heap.size + 2) a4 n c4 (tTo l F 0) (.slice none 0 0) []) := hid ⟨by rw [hrep]; exact hfl, hbx, LLs.nil _ _⟩
          have HB8 : Hid (Below wf.heap.size wf W8) := hid (hb7.trans (hb78.mono hb7.size))
          have HZ8 := hid hz8
          have HVB := hid hvb
          clear hvb
          have HF0 : Hid ((tTo l F 0).fl.length = n ∧ (tTo l F 0).lv.length = 0 ∧ (tTo l F 0).ct = 0) := hid ⟨by unfold tTo; rw [hn.out]; simp, rfl, rfl⟩
          have HW7 := hid hW7
          clear hZ hb7 hb78 hbx hfl hrep hW7 hW8 hz7 hz8
          go_wp2
          clear hmk
          go_loopw [27, 28] (fun ct i wx => ∃ (k z : Nat) (vl : Value) (csl : List Sl), i = .int .i64 k ∧ k ≤ n ∧ ct = .int .i64 z ∧ (tTo l F k).ct = z ∧ (tTo l F k).fl.length = n ∧ (tTo l F k).lv.length = z ∧ z ≤ k * 24 ∧ TSt wx wf.heap.size (wf.heap.size + 2) a4 n c4 (tTo l F k) vl csl ∧ Below wf.heap.size wf wx ∧ wf.heap.size + 2 ≤ wx.heap.size) (fun _ i _ => n - (intOf i).toNat)
          case atStart => exact ⟨0, 0, _, _, rfl, Nat.zero_le _, rfl, HF0.out.2.2, HF0.out.1, HF0.out.2.1, by omega, HST0.out, HB8.out, by rw [HZ8.out]; exact Nat.le_refl _⟩
          case round =>
          obtain ⟨k, z, vl, csl, rfl, hk, rfl, hz, hfn, hvn, hz24, hst, hb, hsz⟩ := hrel
          by_cases hlt : k < n
          · obtain ⟨s0, hs0⟩ : ∃ s, tTo l F k = s := ⟨_, rfl⟩
            rw [hs0] at hz hfn hvn hst
            have HS0 := hid hs0
            have HST := hid hst
            have HB := hid hb
            have HSZ := hid hsz
            have HS4 : Hid (s0.ct = z ∧ s0.fl.length = n ∧ s0.lv.length = z ∧ z ≤ k * 24) := hid ⟨hz, hfn, hvn, hz24⟩
            have hkl : k < l.length := by rw [hn.out]; exact hlt
            obtain ⟨pb, po, e4, hpb, hpc⟩ := (HPR.out w4 (Below.refl _ _)).1.get (by omega)
            have hpc := hpc k hkl
            obtain ⟨x, y, hxy⟩ : ∃ x y, (x, y) = l[k] := ⟨_, _, rfl⟩
            rw [← hxy] at hpc
            have HXY : Hid (∃ h : k < l.length, (x, y) = l[k]) := hid ⟨hkl, hxy⟩
            subst e4
            have HPC : Hid (∀ X, Below wf.heap.size wf X → X.cell? ⟨pb, po + k * 2, none⟩ = some (.int .u16 x) ∧ X.cell? ⟨pb, po + k * 2 + 1, none⟩ = some (.int .u32 y)) := hid fun X h => ⟨cell_to hpc.1 (HBF.out.trans (h.mono HBF.out.size)), cell_to hpc.2 (HBF.out.trans (h.mono HBF.out.size))⟩
            have HPB : Hid (pb < wf.heap.size) := hid (by have := HBF.out.size; omega)
            have HMS : Hid (∀ X, Below wf.heap.size wf X → PidRow X (some ⟨pb, po, none⟩) l) := hid fun X h => (HPR.out X (HBF.out.trans (h.mono HBF.out.size))).1
            obtain ⟨A12, hA12⟩ : ∃ x, (if c4 = 0 then (some ⟨pb, po, none⟩ : Option Addr) else (some ⟨pb, po, none⟩ : Option Addr).map (·.add (0 * 2))) = x := ⟨_, rfl⟩
            have HTK : Hid (∀ X, Below wf.heap.size wf X → PidRow X A12 (l.take k)) := hid fun X h => by
              rw [← hA12]; exact (HMS.out X h).uptoC k c4
            have HA12 := hid hA12
            have HKC : Hid (k ≤ c4) := hid (by have := HC4.out; omega)
            have HTKL : Hid ((l.take k).length = k) := hid (by rw [List.length_take, hn.out]; omega)
            clear hs0 hst hb hsz hz hfn hvn hz24 hkl hpc hxy hA12
            go_wp2
            go_loopw [27, 29] (fun ct j wx => ∃ (q z : Nat) (vl : Value) (csl : List Sl), j = .int .i64 q ∧ q ≤ N ∧ ct = .int .i64 z ∧ ((F.take q).foldl (tIn l k) s0).ct = z ∧ ((F.take q).foldl (tIn l k) s0).fl.length = n ∧ ((F.take q).foldl (tIn l k) s0).lv.length = z ∧ z ≤ k * 24 + q ∧ TSt wx wf.heap.size (wf.heap.size + 2) (some ⟨pb, po, none⟩) n c4 ((F.take q).foldl (tIn l k) s0) vl csl ∧ Below wf.heap.size wf wx ∧ wf.heap.size + 2 ≤ wx.heap.size) (fun _ j _ => N - (intOf j).toNat)
            case atStart =>
              obtain ⟨i1, i2, i3, i4⟩ := HS4.out
              exact ⟨0, z, vl, csl, rfl, Nat.zero_le _, rfl, i1, i2, i3, by omega, HST.out, HB.out, HSZ.out⟩
            case round =>
            clear HST HB HSZ HS4
            obtain ⟨q, z, vl, csl, rfl, hq, rfl, hz, hfn, hvn, hz24, hst, hb, hsz⟩ := hrel
            by_cases hlq : q < N
            case neg =>
              have hqN : q = N := by omega
              have htk : F.take q = F := List.take_of_length_le (by rw [HN.out]; omega)
              rw [htk] at hz hfn hvn hst
              have hrow : F.foldl (tIn l k) s0 = tTo l F (k + 1) := by rw [tTo_succ, HS0.out]; rfl
              rw [hrow] at hz hfn hvn hst
              have HZ := hid hz
              have HFN' := hid hfn
              have HVN := hid hvn
              have HST := hid hst
              have HB := hid hb
              have HSZ := hid hsz
              have HFN24 := HFN.out
              clear hz hfn hvn hst hb hsz htk hrow
              go_wp2
              go_roundw
              case rel => exact ⟨k + 1, z, vl, csl, by go_num, by omega, rfl, HZ.out, HFN'.out, HVN.out, by omega, HST.out, HB.out, HSZ.out⟩
              case measure => simp [intOf]; omega
            have hqF : q < F.length := by rw [HN.out]; exact hlq
            obtain ⟨gF, oF, ai, ci, lf, ea, hlf, hcell, hrow⟩ := (HFR.out wf (Below.refl _ _)).at (Below.refl _ _) rfl hqF
            obtain ⟨m, hm⟩ : ∃ m, lf.length = m := ⟨_, rfl⟩
            rw [hm] at hcell
            subst ea
            have hgF := World.block_lt_of_cell? wf _ hcell
            have hm24 : m ≤ 24 := by rw [← hm, hlf]; exact HFL.out _ (List.getElem_mem hqF)
            have hfold := tRow_take (ms := l) (i := k) (s := s0) hqF hlf
            have HLF : Hid (∀ X, Below wf.heap.size wf X → X.cell? ⟨gF, oF + q, none⟩ = some (.slice ai m ci) ∧ PidRow X ai lf) := hid fun X h => ⟨cell_to hcell h, hrow.ext h⟩
            have HGF := hid hgF
            have HM := hid hm
            have HM24 := hid hm24
            have HFOLD := hid hfold
            obtain ⟨s1, hs1⟩ : ∃ s, (F.take q).foldl (tIn l k) s0 = s := ⟨_, rfl⟩
            rw [hs1] at hz hfn hvn hst hfold
            have HFOLD := hid hfold
            have HST := hid hst
            have HB := hid hb
            have HSZ := hid hsz
            have HS4 : Hid (s1.ct = z ∧ s1.fl.length = n ∧ s1.lv.length = z ∧ z ≤ k * 24 + q) := hid ⟨hz, hfn, hvn, hz24⟩
            have hz1000 : z ≤ 1000 := by have := HN24.out; have := HFN.out; omega
            obtain ⟨r1, hr1⟩ : ∃ r, decide ((x, y) ∈ lf) = r := ⟨_, rfl⟩
            obtain ⟨r2, hr2⟩ : ∃ r, anyIn (l.take k) lf = r := ⟨_, rfl⟩
            have hkey : decide (keyL l lf = k) = (r1 && !r2) := by
              obtain ⟨h1, h2⟩ := HXY.out
              rw [Bool.eq_iff_iff, decide_eq_true_eq, key_iff h1, ← h2, ← hr1, ← hr2]
              unfold anyIn
              simp
            have HKEY := hid hkey
            have CH : Hid (∀ X, Below wf.heap.size wf X → Calls Try.prog 169 #[.slice ai m ci, .agg #[.int .u16 x, .int .u32 y]] X fun e w' => e = .returned (.bool r1) ∧ Below X.heap.size X w') := hid fun X h => by
              have := hasR_is (c := ci) (hid hr1) (by rw [hm]; omega) (HLF.out X h).2
              rw [hm] at this; exact this
            have CF : Hid (∀ X, Below wf.heap.size wf X → Calls Try.prog 223 #[.slice A12 k c4, .slice ai m ci] X fun e w' => e = .returned (.bool r2) ∧ Below X.heap.size X w') := hid fun X h => firstR_any (hid hr2) HTKL.out (hid hm) (by omega) (by omega) (HTK.out X h) (HLF.out X h).2
            have CC : Hid (∀ X, Below wf.heap.size wf X → Calls Try.prog 224 #[.slice (some ⟨pb, po, none⟩) n c4, .slice ai m ci] X fun e w' => ∃ v, e = .returned v ∧ OwnP w' X.heap.size v (commonP l lf) ∧ Below X.heap.size X w') := hid fun X h => by
              have := refCommon_any (some ⟨pb, po, none⟩) c4 l ai ci lf X (by rw [hn.out]; omega) (by rw [hm]; omega) (HMS.out X h) (HLF.out X h).2
              rw [hn.out, hm] at this; exact this
            have HSS : Hid (∀ X, Below wf.heap.size wf X → X.cell? ⟨gF, oF + q, none⟩ = some (.slice ai m ci) ∧ X.cell? ⟨pb, po + k * 2, none⟩ = some (.int .u16 x) ∧ X.cell? ⟨pb, po + k * 2 + 1, none⟩ = some (.int .u32 y)) := hid fun X h => ⟨(HLF.out X h).1, HPC.out X h⟩
            have U12 : ∀ W, (Instr.slice 30 (.slice (some ⟨pb, po, none⟩) n c4) none (some (.int .i64 k)) none).run Try.prog W = .ok (.slice A12 k c4) W := fun W => by rw [run_uptoP HKC.out W, HA12.out]; rfl
            clear hz hfn hvn hst hb hsz hqF hlf hcell hrow hm hgF hfold hs1 hr1 hr2 hkey
            go_wp2
            refine wp_region_held_drew (S := fun X => X.cell? ⟨gF, oF + q, none⟩ = some (.slice ai m ci) ∧ X.cell? ⟨pb, po + k * 2, none⟩ = some (.int .u16 x) ∧ X.cell? ⟨pb, po + k * 2 + 1, none⟩ = some (.int .u32 y)) (by kernel_rfl) (by exact HSS.out _ HB.out.drew) (fun hHeld => ?_)
            refine wpAnyH_take (i := 0) (oi := _) (v := .slice (some ⟨gF, oF, none⟩) N c') rfl (by kernel_rfl) (by kernel_rfl) (by kernel_rfl) (fun _ _ _ h => h) (Or.inl ⟨by rfl, ?_⟩) (by assumption) ?_
            · intro W hSw
              try dsimp only at hSw
              go_simp
            try simp only [Act.put, List.getElem_toArray, List.getElem_cons_succ, List.getElem_cons_zero, List.setIfInBounds_toArray, List.set_cons_zero, List.set_cons_succ]
            refine wpAnyH_take (i := 1) (oi := _) (v := .int .i64 (q : Int)) rfl (by kernel_rfl) (by kernel_rfl) (by kernel_rfl) (fun _ _ _ h => h) (Or.inl ⟨by rfl, ?_⟩) (by assumption) ?_
            · intro W hSw
              try dsimp only at hSw
              go_simp
            try simp only [Act.put, List.getElem_toArray, List.getElem_cons_succ, List.getElem_cons_zero, List.setIfInBounds_toArray, List.set_cons_zero, List.set_cons_succ]
            refine wpAnyH_take (i := 2) (oi := _) (v := .pointer (some ⟨gF, oF + q, none⟩)) rfl (by kernel_rfl) (by kernel_rfl) (by kernel_rfl) (fun _ _ _ h => h) (Or.inl ⟨by rfl, ?_⟩) (by assumption) ?_
            · intro W hSw
              try dsimp only at hSw
              go_simp
            try simp only [Act.put, List.getElem_toArray, List.getElem_cons_succ, List.getElem_cons_zero, List.setIfInBounds_toArray, List.set_cons_zero, List.set_cons_succ]
            refine wpAnyH_take (i := 3) (oi := _) (v := .slice ai m ci) rfl (by kernel_rfl) (by kernel_rfl) (by kernel_rfl) (fun _ _ _ h => h) (Or.inl ⟨by rfl, ?_⟩) (by assumption) ?_
            · intro W hSw
              try dsimp only at hSw
              obtain ⟨h0, -, -⟩ := hSw
              go_simp
            try simp only [Act.put, List.getElem_toArray, List.getElem_cons_succ, List.getElem_cons_zero, List.setIfInBounds_toArray, List.set_cons_zero, List.set_cons_succ]
            refine wpAnyH_take (i := 4) (oi := _) (v := .slice (some ⟨pb, po, none⟩) n c4) rfl (by kernel_rfl) (by kernel_rfl) (by kernel_rfl) (fun _ _ _ h => h) (Or.inl ⟨by rfl, ?_⟩) (by assumption) ?_
            · intro W hSw
              try dsimp only at hSw
              go_simp
            try simp only [Act.put, List.getElem_toArray, List.getElem_cons_succ, List.getElem_cons_zero, List.setIfInBounds_toArray, List.set_cons_zero, List.set_cons_succ]
            refine wpAnyH_take (i := 5) (oi := _) (v := .int .i64 (k : Int)) rfl (by kernel_rfl) (by kernel_rfl) (by kernel_rfl) (fun _ _ _ h => h) (Or.inl ⟨by rfl, ?_⟩) (by assumption) ?_
            · intro W hSw
              try dsimp only at hSw
              go_simp
            try simp only [Act.put, List.getElem_toArray, List.getElem_cons_succ, List.getElem_cons_zero, List.setIfInBounds_toArray, List.set_cons_zero, List.set_cons_succ]
            refine wpAnyH_take (i := 6) (oi := _) (v := .pointer (some ⟨pb, po + k * 2, none⟩)) rfl (by kernel_rfl) (by kernel_rfl) (by kernel_rfl) (fun _ _ _ h => h) (Or.inl ⟨by rfl, ?_⟩) (by assumption) ?_
            · intro W hSw
              try dsimp only at hSw
              go_simp
            try simp only [Act.put, List.getElem_toArray, List.getElem_cons_succ, List.getElem_cons_zero, List.setIfInBounds_toArray, List.set_cons_zero, List.set_cons_succ]
            refine wpAnyH_take (i := 7) (oi := _) (v := .agg #[.int .u16 x, .int .u32 y]) rfl (by kernel_rfl) (by kernel_rfl) (by kernel_rfl) (fun _ _ _ h => h) (Or.inl ⟨by rfl, ?_⟩) (by assumption) ?_
            · intro W hSw
              try dsimp only at hSw
              obtain ⟨-, h1, h2⟩ := hSw
              go_simp
            try simp only [Act.put, List.getElem_toArray, List.getElem_cons_succ, List.getElem_cons_zero, List.setIfInBounds_toArray, List.set_cons_zero, List.set_cons_succ]
            refine wpAnyH_ready (rs := [8]) (by kernel_rfl) (by simp) ?_
            refine AllReadyH.cons (o := _) rfl (fun K hK => ?_) AllReadyH.nil
            go_simp
            (with_reducible refine (CH.out _ HB.out.drew).mono ?_)
            rintro e w7 ⟨rfl, hb7⟩
            have HB7 : Hid (Below wr.heap.size wr w7) := hid ((Below.refl wr.heap.size wr).drew.trans hb7)
            have HB7f := hid (HB.out.trans (HB7.out.mono HB.out.size))
            clear hb7
            refine hK.out _ _ (HSS.out _ HB7f.out) (fun hHeld => ?_)
            clear hK K
            try simp only [Act.put, List.getElem_toArray, List.getElem_cons_succ, List.getElem_cons_zero, List.setIfInBounds_toArray, List.set_cons_zero, List.set_cons_succ]
            cases r1
            case false =>
              refine wpAnyH_take (i := 9) (oi := _) (v := .bool false) rfl (by kernel_rfl) (by kernel_rfl) (by kernel_rfl) (fun _ _ _ h => h) (Or.inl ⟨by rfl, ?_⟩) (by assumption) ?_
              · intro W hSw
                try dsimp only at hSw
                go_simp
              try simp only [Act.put, List.getElem_toArray, List.getElem_cons_succ, List.getElem_cons_zero, List.setIfInBounds_toArray, List.set_cons_zero, List.set_cons_succ]
              refine wpAnyH_take (i := 10) (oi := _) (v := undef) rfl (by kernel_rfl) (by kernel_rfl) (by kernel_rfl) (fun _ _ _ h => h) (Or.inr ⟨by rfl, rfl⟩) (by assumption) ?_
              try simp only [Act.put, List.getElem_toArray, List.getElem_cons_succ, List.getElem_cons_zero, List.setIfInBounds_toArray, List.set_cons_zero, List.set_cons_succ]
              refine wpAnyH_take (i := 11) (oi := _) (v := undef) rfl (by kernel_rfl) (by kernel_rfl) (by kernel_rfl) (fun _ _ _ h => h) (Or.inr ⟨by rfl, rfl⟩) (by assumption) ?_
              try simp only [Act.put, List.getElem_toArray, List.getElem_cons_succ, List.getElem_cons_zero, List.setIfInBounds_toArray, List.set_cons_zero, List.set_cons_succ]
              refine wpAnyH_take (i := 12) (oi := _) (v := undef) rfl (by kernel_rfl) (by kernel_rfl) (by kernel_rfl) (fun _ _ _ h => h) (Or.inr ⟨by rfl, rfl⟩) (by assumption) ?_
              try simp only [Act.put, List.getElem_toArray, List.getElem_cons_succ, List.getElem_cons_zero, List.setIfInBounds_toArray, List.set_cons_zero, List.set_cons_succ]
              refine wpAnyH_take (i := 13) (oi := _) (v := undef) rfl (by kernel_rfl) (by kernel_rfl) (by kernel_rfl) (fun _ _ _ h => h) (Or.inr ⟨by rfl, rfl⟩) (by assumption) ?_
              try simp only [Act.put, List.getElem_toArray, List.getElem_cons_succ, List.getElem_cons_zero, List.setIfInBounds_toArray, List.set_cons_zero, List.set_cons_succ]
              refine wpAnyH_take (i := 14) (oi := _) (v := undef) rfl (by kernel_rfl) (by kernel_rfl) (by kernel_rfl) (fun _ _ _ h => h) (Or.inr ⟨by rfl, rfl⟩) (by assumption) ?_
              try simp only [Act.put, List.getElem_toArray, List.getElem_cons_succ, List.getElem_cons_zero, List.setIfInBounds_toArray, List.set_cons_zero, List.set_cons_succ]
              refine wpAnyH_take (i := 15) (oi := _) (v := undef) rfl (by kernel_rfl) (by kernel_rfl) (by kernel_rfl) (fun _ _ _ h => h) (Or.inr ⟨by rfl, rfl⟩) (by assumption) ?_
              try simp only [Act.put, List.getElem_toArray, List.getElem_cons_succ, List.getElem_cons_zero, List.setIfInBounds_toArray, List.set_cons_zero, List.set_cons_succ]
              refine wpAnyH_take (i := 16) (oi := _) (v := undef) rfl (by kernel_rfl) (by kernel_rfl) (by kernel_rfl) (fun _ _ _ h => h) (Or.inr ⟨by rfl, rfl⟩) (by assumption) ?_
              try simp only [Act.put, List.getElem_toArray, List.getElem_cons_succ, List.getElem_cons_zero, List.setIfInBounds_toArray, List.set_cons_zero, List.set_cons_succ]
              refine wpAnyH_take (i := 17) (oi := _) (v := undef) rfl (by kernel_rfl) (by kernel_rfl) (by kernel_rfl) (fun _ _ _ h => h) (Or.inr ⟨by rfl, rfl⟩) (by assumption) ?_
              try simp only [Act.put, List.getElem_toArray, List.getElem_cons_succ, List.getElem_cons_zero, List.setIfInBounds_toArray, List.set_cons_zero, List.set_cons_succ]
              refine wpAnyH_take (i := 18) (oi := _) (v := undef) rfl (by kernel_rfl) (by kernel_rfl) (by kernel_rfl) (fun _ _ _ h => h) (Or.inr ⟨by rfl, rfl⟩) (by assumption) ?_
              try simp only [Act.put, List.getElem_toArray, List.getElem_cons_succ, List.getElem_cons_zero, List.setIfInBounds_toArray, List.set_cons_zero, List.set_cons_succ]
              refine wpAnyH_take (i := 19) (oi := _) (v := .bool false) rfl (by kernel_rfl) (by kernel_rfl) (by kernel_rfl) (fun _ _ _ h => h) (Or.inl ⟨by rfl, ?_⟩) (by assumption) ?_
              · intro W hSw
                try dsimp only at hSw
                go_simp
              try simp only [Act.put, List.getElem_toArray, List.getElem_cons_succ, List.getElem_cons_zero, List.setIfInBounds_toArray, List.set_cons_zero, List.set_cons_succ]
              refine wpAnyH_done (by kernel_rfl) ?_ _
              clear U12
              have hno : ¬ keyL l lf = k := of_decide_eq_false HKEY.out
              have HNEXT : Hid ((F.take (q + 1)).foldl (tIn l k) s0 = s1) := hid (by rw [HFOLD.out]; unfold tIn; rw [if_neg hno])
              have HST9 := hid (HST.out.ext HB7.out)
              clear hno
              go_wp2
              go_roundw
              case rel => exact ⟨q + 1, z, vl, csl, by go_num, by omega, rfl, by rw [HNEXT.out]; exact HS4.out.1, by rw [HNEXT.out]; exact HS4.out.2.1, by rw [HNEXT.out]; exact HS4.out.2.2.1, by have := HS4.out.2.2.2; omega, by rw [HNEXT.out]; exact HST9.out, HB7f.out, by have := HB7.out.size; have := HSZ.out; omega⟩
              case measure => simp [intOf]; omega
            case true =>
            refine wpAnyH_take (i := 9) (oi := _) (v := .bool true) rfl (by kernel_rfl) (by kernel_rfl) (by kernel_rfl) (fun _ _ _ h => h) (Or.inl ⟨by rfl, ?_⟩) (by assumption) ?_
            · intro W hSw
              try dsimp only at hSw
              go_simp
            try simp only [Act.put, List.getElem_toArray, List.getElem_cons_succ, List.getElem_cons_zero, List.setIfInBounds_toArray, List.set_cons_zero, List.set_cons_succ]
            refine wpAnyH_take (i := 10) (oi := _) (v := .slice (some ⟨pb, po, none⟩) n c4) rfl (by kernel_rfl) (by kernel_rfl) (by kernel_rfl) (fun _ _ _ h => h) (Or.inl ⟨by rfl, ?_⟩) (by assumption) ?_
            · intro W hSw
              try dsimp only at hSw
              go_simp
            try simp only [Act.put, List.getElem_toArray, List.getElem_cons_succ, List.getElem_cons_zero, List.setIfInBounds_toArray, List.set_cons_zero, List.set_cons_succ]
            refine wpAnyH_take (i := 11) (oi := _) (v := .int .i64 (k : Int)) rfl (by kernel_rfl) (by kernel_rfl) (by kernel_rfl) (fun _ _ _ h => h) (Or.inl ⟨by rfl, ?_⟩) (by assumption) ?_
            · intro W hSw
              try dsimp only at hSw
              go_simp
            try simp only [Act.put, List.getElem_toArray, List.getElem_cons_succ, List.getElem_cons_zero, List.setIfInBounds_toArray, List.set_cons_zero, List.set_cons_succ]
            refine wpAnyH_take (i := 12) (oi := _) (v := .slice A12 k c4) rfl (by kernel_rfl) (by kernel_rfl) (by kernel_rfl) (fun _ _ _ h => h) (Or.inl ⟨by rfl, ?_⟩) (by assumption) ?_
            · intro W hSw
              try dsimp only at hSw
              go_simp
            try simp only [Act.put, List.getElem_toArray, List.getElem_cons_succ, List.getElem_cons_zero, List.setIfInBounds_toArray, List.set_cons_zero, List.set_cons_succ]
            refine wpAnyH_take (i := 13) (oi := _) (v := .slice (some ⟨gF, oF, none⟩) N c') rfl (by kernel_rfl) (by kernel_rfl) (by kernel_rfl) (fun _ _ _ h => h) (Or.inl ⟨by rfl, ?_⟩) (by assumption) ?_
            · intro W hSw
              try dsimp only at hSw
              go_simp
            try simp only [Act.put, List.getElem_toArray, List.getElem_cons_succ, List.getElem_cons_zero, List.setIfInBounds_toArray, List.set_cons_zero, List.set_cons_succ]
            refine wpAnyH_take (i := 14) (oi := _) (v := .int .i64 (q : Int)) rfl (by kernel_rfl) (by kernel_rfl) (by kernel_rfl) (fun _ _ _ h => h) (Or.inl ⟨by rfl, ?_⟩) (by assumption) ?_
            · intro W hSw
              try dsimp only at hSw
              go_simp
            try simp only [Act.put, List.getElem_toArray, List.getElem_cons_succ, List.getElem_cons_zero, List.setIfInBounds_toArray, List.set_cons_zero, List.set_cons_succ]
            refine wpAnyH_take (i := 15) (oi := _) (v := .pointer (some ⟨gF, oF + q, none⟩)) rfl (by kernel_rfl) (by kernel_rfl) (by kernel_rfl) (fun _ _ _ h => h) (Or.inl ⟨by rfl, ?_⟩) (by assumption) ?_
            · intro W hSw
              try dsimp only at hSw
              go_simp
            try simp only [Act.put, List.getElem_toArray, List.getElem_cons_succ, List.getElem_cons_zero, List.setIfInBounds_toArray, List.set_cons_zero, List.set_cons_succ]
            refine wpAnyH_take (i := 16) (oi := _) (v := .slice ai m ci) rfl (by kernel_rfl) (by kernel_rfl) (by kernel_rfl) (fun _ _ _ h => h) (Or.inl ⟨by rfl, ?_⟩) (by assumption) ?_
            · intro W hSw
              try dsimp only at hSw
              obtain ⟨h0, -, -⟩ := hSw
              go_simp
            try simp only [Act.put, List.getElem_toArray, List.getElem_cons_succ, List.getElem_cons_zero, List.setIfInBounds_toArray, List.set_cons_zero, List.set_cons_succ]
            refine wpAnyH_ready (rs := [17]) (by kernel_rfl) (by simp) ?_
            refine AllReadyH.cons (o := _) rfl (fun K hK => ?_) AllReadyH.nil
            go_simp
            (with_reducible refine (CF.out _ HB7f.out).mono ?_)
            rintro e w8 ⟨rfl, hb8⟩
            have HB8 : Hid (Below wr.heap.size wr w8) := hid (HB7.out.trans (hb8.mono HB7.out.size))
            have HB8f := hid (HB.out.trans (HB8.out.mono HB.out.size))
            clear hb8 U12
            refine hK.out _ _ (HSS.out _ HB8f.out) (fun hHeld => ?_)
            clear hK K
            try simp only [Act.put, List.getElem_toArray, List.getElem_cons_succ, List.getElem_cons_zero, List.setIfInBounds_toArray, List.set_cons_zero, List.set_cons_succ]
            cases r2
            case false =>
              refine wpAnyH_take (i := 18) (oi := _) (v := .bool true) rfl (by kernel_rfl) (by kernel_rfl) (by kernel_rfl) (fun _ _ _ h => h) (Or.inl ⟨by rfl, ?_⟩) (by assumption) ?_
              · intro W hSw
                try dsimp only at hSw
                go_simp
              try simp only [Act.put, List.getElem_toArray, List.getElem_cons_succ, List.getElem_cons_zero, List.setIfInBounds_toArray, List.set_cons_zero, List.set_cons_succ]
              refine wpAnyH_take (i := 19) (oi := _) (v := .bool true) rfl (by kernel_rfl) (by kernel_rfl) (by kernel_rfl) (fun _ _ _ h => h) (Or.inl ⟨by rfl, ?_⟩) (by assumption) ?_
              · intro W hSw
                try dsimp only at hSw
                go_simp
              try simp only [Act.put, List.getElem_toArray, List.getElem_cons_succ, List.getElem_cons_zero, List.setIfInBounds_toArray, List.set_cons_zero, List.set_cons_succ]
              refine wpAnyH_done (by kernel_rfl) ?_ _
              have hyes : keyL l lf = k := of_decide_eq_true HKEY.out
              have HNEXT : Hid ((F.take (q + 1)).foldl (tIn l k) s0 = ⟨s1.lv ++ [commonP l lf], s1.fl.set k true, s1.ct + 1⟩) := hid (by rw [HFOLD.out]; unfold tIn; rw [if_pos hyes])
              have HST8 := hid (HST.out.ext HB8.out)
              have HSZ8 : Hid (wf.heap.size + 2 ≤ w8.heap.size) := hid (by have := HB8.out.size; have := HSZ.out; omega)
              have kl : w8.drew.cell? ⟨wf.heap.size, 2, none⟩ = some vl := HST8.out.bx.c2
              clear hyes
              go_wp2
              refine wp_region_held_drew (S := fun X => X.cell? ⟨gF, oF + q, none⟩ = some (.slice ai m ci)) (by kernel_rfl) (by exact (HSS.out _ HB8f.out.drew).1) (fun hHeld => ?_)
              refine wpAnyH_take (i := 0) (oi := _) (v := .pointer (some ⟨wf.heap.size, 2, none⟩)) rfl (by kernel_rfl) (by kernel_rfl) (by kernel_rfl) (fun _ _ _ h => h) (Or.inl ⟨by rfl, ?_⟩) (by assumption) ?_
              · intro W hSw
                try dsimp only at hSw
                go_simp
              try simp only [Act.put, List.getElem_toArray, List.getElem_cons_succ, List.getElem_cons_zero, List.setIfInBounds_toArray, List.set_cons_zero, List.set_cons_succ]
              refine wpAnyH_take (i := 2) (oi := _) (v := .slice (some ⟨pb, po, none⟩) n c4) rfl (by kernel_rfl) (by kernel_rfl) (by kernel_rfl) (fun _ _ _ h => h) (Or.inl ⟨by rfl, ?_⟩) (by assumption) ?_
              · intro W hSw
                try dsimp only at hSw
                go_simp
              try simp only [Act.put, List.getElem_toArray, List.getElem_cons_succ, List.getElem_cons_zero, List.setIfInBounds_toArray, List.set_cons_zero, List.set_cons_succ]
              refine wpAnyH_take (i := 3) (oi := _) (v := .slice (some ⟨gF, oF, none⟩) N c') rfl (by kernel_rfl) (by kernel_rfl) (by kernel_rfl) (fun _ _ _ h => h) (Or.inl ⟨by rfl, ?_⟩) (by assumption) ?_
              · intro W hSw
                try dsimp only at hSw
                go_simp
              try simp only [Act.put, List.getElem_toArray, List.getElem_cons_succ, List.getElem_cons_zero, List.setIfInBounds_toArray, List.set_cons_zero, List.set_cons_succ]
              refine wpAnyH_take (i := 4) (oi := _) (v := .int .i64 (q : Int)) rfl (by kernel_rfl) (by kernel_rfl) (by kernel_rfl) (fun _ _ _ h => h) (Or.inl ⟨by rfl, ?_⟩) (by assumption) ?_
              · intro W hSw
                try dsimp only at hSw
                go_simp
              try simp only [Act.put, List.getElem_toArray, List.getElem_cons_succ, List.getElem_cons_zero, List.setIfInBounds_toArray, List.set_cons_zero, List.set_cons_succ]
              refine wpAnyH_take (i := 5) (oi := _) (v := .pointer (some ⟨gF, oF + q, none⟩)) rfl (by kernel_rfl) (by kernel_rfl) (by kernel_rfl) (fun _ _ _ h => h) (Or.inl ⟨by rfl, ?_⟩) (by assumption) ?_
              · intro W hSw
                try dsimp only at hSw
                go_simp
              try simp only [Act.put, List.getElem_toArray, List.getElem_cons_succ, List.getElem_cons_zero, List.setIfInBounds_toArray, List.set_cons_zero, List.set_cons_succ]
              refine wpAnyH_take (i := 6) (oi := _) (v := .slice ai m ci) rfl (by kernel_rfl) (by kernel_rfl) (by kernel_rfl) (fun _ _ _ h => h) (Or.inl ⟨by rfl, ?_⟩) (by assumption) ?_
              · intro W hSw
                try dsimp only at hSw
                go_simp
              try simp only [Act.put, List.getElem_toArray, List.getElem_cons_succ, List.getElem_cons_zero, List.setIfInBounds_toArray, List.set_cons_zero, List.set_cons_succ]
              refine wpAnyH_ready (rs := [1, 7]) (by kernel_rfl) (by simp) ?_
              refine AllReadyH.cons (o := _) rfl (fun K hK => ?_) (AllReadyH.cons (o := _) rfl (fun K hK => ?_) AllReadyH.nil)
              · go_simp
                refine hK.out _ _ (HSS.out _ HB8f.out.drew).1 (fun hHeld => ?_)
                clear hK K
                try simp only [Act.put, List.getElem_toArray, List.getElem_cons_succ, List.getElem_cons_zero, List.setIfInBounds_toArray, List.set_cons_zero, List.set_cons_succ]
                refine wpAnyH_ready (rs := [7]) (by kernel_rfl) (by simp) ?_
                refine AllReadyH.cons (o := _) rfl (fun K hK => ?_) AllReadyH.nil
                go_simp
                (with_reducible refine (CC.out _ HB8f.out.drew).mono ?_)
                rintro e w9 ⟨v9, rfl, hown9, hb9⟩
                have HB9 : Hid (Below w8.heap.size w8 w9) := hid ((Below.refl w8.heap.size w8).drew.trans hb9)
                have HB9f := hid (HB8f.out.trans (HB9.out.mono HB8f.out.size))
                obtain ⟨a9, c9, e9, -, -, -, hbk9⟩ := hown9.sl
                obtain ⟨m9, hm9⟩ : ∃ m, (commonP l lf).length = m := ⟨_, rfl⟩
                rw [hm9] at e9 hbk9
                subst e9
                have HO9 := hid hown9
                have HBK9 : Hid (∀ p, blkS (a9, m9, c9) = some p → w8.heap.size ≤ p ∧ p < w9.heap.size) := hid hbk9
                have HST9 := hid (HST8.out.ext HB9.out)
                have HSZ9 : Hid (wf.heap.size + 2 ≤ w9.heap.size) := hid (by have := HB9.out.size; have := HSZ8.out; omega)
                have kl9 : w9.cell? ⟨wf.heap.size, 2, none⟩ = some vl := HST9.out.bx.c2
                clear hown9 hb9 hbk9 hm9 kl
                refine hK.out _ _ (HSS.out _ HB9f.out).1 (fun hHeld => ?_)
                clear hK K
                try simp only [Act.put, List.getElem_toArray, List.getElem_cons_succ, List.getElem_cons_zero, List.setIfInBounds_toArray, List.set_cons_zero, List.set_cons_succ]
                have hbA : Below w9.heap.size w9 (w9.alloc (.cells #[.slice a9 m9 c9] 30)) := (Below.refl _ _).alloc (Nat.le_refl _) _
                have HSTA := hid (HST9.out.ext hbA)
                have HBA := hid (HB9f.out.trans (hbA.mono HB9f.out.size))
                have HCA : Hid ((w9.alloc (.cells #[.slice a9 m9 c9] 30)).cell? ⟨w9.heap.size, 0, none⟩ = some (encS (a9, m9, c9))) := hid (by simp [encS])
                have HPA : Hid (OwnP (w9.alloc (.cells #[.slice a9 m9 c9] 30)) (wf.heap.size + 2) (encS (a9, m9, c9)) (commonP l lf)) := hid ((OwnP.mono HO9.out (by have := HSZ8.out; exact this)).ext hbA)
                have HVA : Hid (∀ p, blkS (a9, m9, c9) = some p → vl.ownBlock ≠ some p) := hid fun p hp e => by have := (HBK9.out p hp).1; have := (HST8.out.ll.blk e).2; omega
                have HUA : Hid (∀ u ∈ csl, ∀ p, blkS u = some p → blkS (a9, m9, c9) ≠ some p) := hid fun u hu p hp e => by have := (HBK9.out p e).1; have := (HST8.out.ll.elB hu hp).2; omega
                have HZA : Hid (wf.heap.size + 2 ≤ (w9.alloc (.cells #[.slice a9 m9 c9] 30)).heap.size) := hid (by have := HSZ9.out; simp; omega)
                have klA : (w9.alloc (.cells #[.slice a9 m9 c9] 30)).cell? ⟨wf.heap.size, 2, none⟩ = some vl := HSTA.out.bx.c2
                clear hbA
                refine wpAnyH_ready (rs := [8]) (by kernel_rfl) (by simp) ?_
                refine AllReadyH.cons (o := _) rfl (fun K hK => ?_) AllReadyH.nil
                go_simp
                refine hK.out _ _ (HSS.out _ HBA.out).1 (fun hHeld => ?_)
                clear hK K
                try simp only [Act.put, List.getElem_toArray, List.getElem_cons_succ, List.getElem_cons_zero, List.setIfInBounds_toArray, List.set_cons_zero, List.set_cons_succ]
                clear kl9 klA
                refine wpAnyH_ready (rs := [9]) (by kernel_rfl) (by simp) ?_
                refine AllReadyH.cons (o := _) rfl (fun K hK => ?_) AllReadyH.nil
                refine step_appendLs (by rfl) HSTA.out.ll HCA.out HPA.out HVA.out HUA.out (by have := HS4.out.2.2.1; omega) HZA.out rfl rfl rfl ?_
                intro v10 w10 hls10 hg10
                obtain ⟨a10, c10, e10, -⟩ := hls10.row
                obtain ⟨m10, hm10⟩ : ∃ m, (s1.lv ++ [commonP l lf]).length = m := ⟨_, rfl⟩
                rw [hm10] at e10
                subst e10
                clear hm10
                have HB10 := hid (HBA.out.grown hg10 HBA.out.size (fun p hp => by have := (HSTA.out.ll.blk hp).1; have := HVB.out; omega))
                obtain ⟨hm1, hm2, hm3, hm4⟩ := HSTA.out.more (k := k) rfl hls10 hg10 (by rw [HS4.out.2.1]; exact hlt)
                have HMORE := hid hm1
                obtain ⟨d0, d1, d2, d3, g0, g1, g2, g3⟩ := hm2
                have HFL10 := hid hm3
                have HZ10 : Hid (wf.heap.size + 2 ≤ w10.heap.size) := hid (by have := hm4.size; have := HZA.out; omega)
                clear hls10 hg10 hm1 hm3 hm4
                refine hK.out _ _ (HSS.out _ HB10.out).1 (fun hHeld => ?_)
                clear hK K
                try simp only [Act.put, List.getElem_toArray, List.getElem_cons_succ, List.getElem_cons_zero, List.setIfInBounds_toArray, List.set_cons_zero, List.set_cons_succ]
                refine wpAnyH_ready (rs := [10]) (by kernel_rfl) (by simp) ?_
                refine AllReadyH.cons (o := _) rfl (fun K hK => ?_) AllReadyH.nil
                go_simp
                refine hK.out _ _ (HSS.out _ HB10.out).1 (fun hHeld => ?_)
                clear hK K
                try simp only [Act.put, List.getElem_toArray, List.getElem_cons_succ, List.getElem_cons_zero, List.setIfInBounds_toArray, List.set_cons_zero, List.set_cons_succ]
                have HB11 : Hid (Below wf.heap.size wf (w10.setCell ⟨wf.heap.size, 2, none⟩ (.slice a10 m10 c10))) := hid (below_set HB10.out (Nat.le_refl _))
                refine wpAnyH_ready (rs := [11]) (by kernel_rfl) (by simp) ?_
                refine AllReadyH.cons (o := _) rfl (fun K hK => ?_) AllReadyH.nil
                go_simp
                refine hK.out _ _ (HSS.out _ HB11.out).1 (fun hHeld => ?_)
                clear hK K
                try simp only [Act.put, List.getElem_toArray, List.getElem_cons_succ, List.getElem_cons_zero, List.setIfInBounds_toArray, List.set_cons_zero, List.set_cons_succ]
                refine wpAnyH_done (by kernel_rfl) ?_ _
                have kk : (w10.setCell ⟨wf.heap.size, 2, none⟩ (.slice a10 m10 c10)).cell? ⟨wf.heap.size + 1, k, none⟩ = some (.bool (s1.fl.getD k false)) := HFL10.out.c k (by rw [HS4.out.2.1]; exact hlt)
                have ff : (w10.setCell ⟨wf.heap.size, 2, none⟩ (.slice a10 m10 c10)).frozen? ⟨wf.heap.size + 1, k, none⟩ = false := HFL10.out.f k
                have HB12 : Hid (Below wf.heap.size wf ((w10.setCell ⟨wf.heap.size, 2, none⟩ (.slice a10 m10 c10)).setCell ⟨wf.heap.size + 1, k, none⟩ (.bool true))) := hid (below_set HB11.out (by have := HVB.out; omega))
                obtain ⟨wq, hwq⟩ : ∃ x, w10.setCell ⟨wf.heap.size, 2, none⟩ (.slice a10 m10 c10) = x := ⟨_, rfl⟩
                have HZQ : Hid (wf.heap.size + 2 ≤ (wq.setCell ⟨wf.heap.size + 1, k, none⟩ (.bool true)).heap.size) := hid (by have := HZ10.out; rw [← hwq]; simp; omega)
                rw [hwq] at kk ff HB12 HMORE
                clear d0 d1 d2 d3 g0 g1 g2 g3 HFL10 HB11
                go_wp2
                go_roundw
                case rel => exact ⟨q + 1, z + 1, (.slice a10 m10 c10), csl ++ [(a9, m9, c9)], by go_num, by omega, by go_num, by rw [HNEXT.out]; show s1.ct + 1 = _; rw [HS4.out.1], by rw [HNEXT.out]; show (s1.fl.set k true).length = n; rw [List.length_set]; exact HS4.out.2.1, by rw [HNEXT.out]; show (s1.lv ++ [commonP l lf]).length = _; rw [List.length_append, HS4.out.2.2.1]; rfl, by have := HS4.out.2.2.2; omega, by rw [HNEXT.out]; exact HMORE.out, HB12.out, HZQ.out⟩
                case measure => simp [intOf]; omega
              · go_simp
                (with_reducible refine (CC.out _ HB8f.out.drew).mono ?_)
                rintro e w9 ⟨v9, rfl, hown9, hb9⟩
                have HB9 : Hid (Below w8.heap.size w8 w9) := hid ((Below.refl w8.heap.size w8).drew.trans hb9)
                have HB9f := hid (HB8f.out.trans (HB9.out.mono HB8f.out.size))
                obtain ⟨a9, c9, e9, -, -, -, hbk9⟩ := hown9.sl
                obtain ⟨m9, hm9⟩ : ∃ m, (commonP l lf).length = m := ⟨_, rfl⟩
                rw [hm9] at e9 hbk9
                subst e9
                have HO9 := hid hown9
                have HBK9 : Hid (∀ p, blkS (a9, m9, c9) = some p → w8.heap.size ≤ p ∧ p < w9.heap.size) := hid hbk9
                have HST9 := hid (HST8.out.ext HB9.out)
                have HSZ9 : Hid (wf.heap.size + 2 ≤ w9.heap.size) := hid (by have := HB9.out.size; have := HSZ8.out; omega)
                have kl9 : w9.cell? ⟨wf.heap.size, 2, none⟩ = some vl := HST9.out.bx.c2
                clear hown9 hb9 hbk9 hm9 kl
                refine hK.out _ _ (HSS.out _ HB9f.out).1 (fun hHeld => ?_)
                clear hK K
                try simp only [Act.put, List.getElem_toArray, List.getElem_cons_succ, List.getElem_cons_zero, List.setIfInBounds_toArray, List.set_cons_zero, List.set_cons_succ]
                have hbA : Below w9.heap.size w9 (w9.alloc (.cells #[.slice a9 m9 c9] 30)) := (Below.refl _ _).alloc (Nat.le_refl _) _
                have HSTA := hid (HST9.out.ext hbA)
                have HBA := hid (HB9f.out.trans (hbA.mono HB9f.out.size))
                have HCA : Hid ((w9.alloc (.cells #[.slice a9 m9 c9] 30)).cell? ⟨w9.heap.size, 0, none⟩ = some (encS (a9, m9, c9))) := hid (by simp [encS])
                have HPA : Hid (OwnP (w9.alloc (.cells #[.slice a9 m9 c9] 30)) (wf.heap.size + 2) (encS (a9, m9, c9)) (commonP l lf)) := hid ((OwnP.mono HO9.out (by have := HSZ8.out; exact this)).ext hbA)
                have HVA : Hid (∀ p, blkS (a9, m9, c9) = some p → vl.ownBlock ≠ some p) := hid fun p hp e => by have := (HBK9.out p hp).1; have := (HST8.out.ll.blk e).2; omega
                have HUA : Hid (∀ u ∈ csl, ∀ p, blkS u = some p → blkS (a9, m9, c9) ≠ some p) := hid fun u hu p hp e => by have := (HBK9.out p e).1; have := (HST8.out.ll.elB hu hp).2; omega
                have HZA : Hid (wf.heap.size + 2 ≤ (w9.alloc (.cells #[.slice a9 m9 c9] 30)).heap.size) := hid (by have := HSZ9.out; simp; omega)
                have klA : (w9.alloc (.cells #[.slice a9 m9 c9] 30)).cell? ⟨wf.heap.size, 2, none⟩ = some vl := HSTA.out.bx.c2
                clear hbA
                refine wpAnyH_ready (rs := [1, 8]) (by kernel_rfl) (by simp) ?_
                refine AllReadyH.cons (o := _) rfl (fun K hK => ?_) (AllReadyH.cons (o := _) rfl (fun K hK => ?_) AllReadyH.nil)
                · go_simp
                  refine hK.out _ _ (HSS.out _ HB9f.out).1 (fun hHeld => ?_)
                  clear hK K
                  try simp only [Act.put, List.getElem_toArray, List.getElem_cons_succ, List.getElem_cons_zero, List.setIfInBounds_toArray, List.set_cons_zero, List.set_cons_succ]
                  refine wpAnyH_ready (rs := [8]) (by kernel_rfl) (by simp) ?_
                  refine AllReadyH.cons (o := _) rfl (fun K hK => ?_) AllReadyH.nil
                  go_simp
                  refine hK.out _ _ (HSS.out _ HBA.out).1 (fun hHeld => ?_)
                  clear hK K
                  try simp only [Act.put, List.getElem_toArray, List.getElem_cons_succ, List.getElem_cons_zero, List.setIfInBounds_toArray, List.set_cons_zero, List.set_cons_succ]
                  clear kl9 klA
                  refine wpAnyH_ready (rs := [9]) (by kernel_rfl) (by simp) ?_
                  refine AllReadyH.cons (o := _) rfl (fun K hK => ?_) AllReadyH.nil
                  refine step_appendLs (by rfl) HSTA.out.ll HCA.out HPA.out HVA.out HUA.out (by have := HS4.out.2.2.1; omega) HZA.out rfl rfl rfl ?_
                  intro v10 w10 hls10 hg10
                  obtain ⟨a10, c10, e10, -⟩ := hls10.row
                  obtain ⟨m10, hm10⟩ : ∃ m, (s1.lv ++ [commonP l lf]).length = m := ⟨_, rfl⟩
                  rw [hm10] at e10
                  subst e10
                  clear hm10
                  have HB10 := hid (HBA.out.grown hg10 HBA.out.size (fun p hp => by have := (HSTA.out.ll.blk hp).1; have := HVB.out; omega))
                  obtain ⟨hm1, hm2, hm3, hm4⟩ := HSTA.out.more (k := k) rfl hls10 hg10 (by rw [HS4.out.2.1]; exact hlt)
                  have HMORE := hid hm1
                  obtain ⟨d0, d1, d2, d3, g0, g1, g2, g3⟩ := hm2
                  have HFL10 := hid hm3
                  have HZ10 : Hid (wf.heap.size + 2 ≤ w10.heap.size) := hid (by have := hm4.size; have := HZA.out; omega)
                  clear hls10 hg10 hm1 hm3 hm4
                  refine hK.out _ _ (HSS.out _ HB10.out).1 (fun hHeld => ?_)
                  clear hK K
                  try simp only [Act.put, List.getElem_toArray, List.getElem_cons_succ, List.getElem_cons_zero, List.setIfInBounds_toArray, List.set_cons_zero, List.set_cons_succ]
                  refine wpAnyH_ready (rs := [10]) (by kernel_rfl) (by simp) ?_
                  refine AllReadyH.cons (o := _) rfl (fun K hK => ?_) AllReadyH.nil
                  go_simp
                  refine hK.out _ _ (HSS.out _ HB10.out).1 (fun hHeld => ?_)
                  clear hK K
                  try simp only [Act.put, List.getElem_toArray, List.getElem_cons_succ, List.getElem_cons_zero, List.setIfInBounds_toArray, List.set_cons_zero, List.set_cons_succ]
                  have HB11 : Hid (Below wf.heap.size wf (w10.setCell ⟨wf.heap.size, 2, none⟩ (.slice a10 m10 c10))) := hid (below_set HB10.out (Nat.le_refl _))
                  refine wpAnyH_ready (rs := [11]) (by kernel_rfl) (by simp) ?_
                  refine AllReadyH.cons (o := _) rfl (fun K hK => ?_) AllReadyH.nil
                  go_simp
                  refine hK.out _ _ (HSS.out _ HB11.out).1 (fun hHeld => ?_)
                  clear hK K
                  try simp only [Act.put, List.getElem_toArray, List.getElem_cons_succ, List.getElem_cons_zero, List.setIfInBounds_toArray, List.set_cons_zero, List.set_cons_succ]
                  refine wpAnyH_done (by kernel_rfl) ?_ _
                  have kk : (w10.setCell ⟨wf.heap.size, 2, none⟩ (.slice a10 m10 c10)).cell? ⟨wf.heap.size + 1, k, none⟩ = some (.bool (s1.fl.getD k false)) := HFL10.out.c k (by rw [HS4.out.2.1]; exact hlt)
                  have ff : (w10.setCell ⟨wf.heap.size, 2, none⟩ (.slice a10 m10 c10)).frozen? ⟨wf.heap.size + 1, k, none⟩ = false := HFL10.out.f k
                  have HB12 : Hid (Below wf.heap.size wf ((w10.setCell ⟨wf.heap.size, 2, none⟩ (.slice a10 m10 c10)).setCell ⟨wf.heap.size + 1, k, none⟩ (.bool true))) := hid (below_set HB11.out (by have := HVB.out; omega))
                  obtain ⟨wq, hwq⟩ : ∃ x, w10.setCell ⟨wf.heap.size, 2, none⟩ (.slice a10 m10 c10) = x := ⟨_, rfl⟩
                  have HZQ : Hid (wf.heap.size + 2 ≤ (wq.setCell ⟨wf.heap.size + 1, k, none⟩ (.bool true)).heap.size) := hid (by have := HZ10.out; rw [← hwq]; simp; omega)
                  rw [hwq] at kk ff HB12 HMORE
                  clear d0 d1 d2 d3 g0 g1 g2 g3 HFL10 HB11
                  go_wp2
                  go_roundw
                  case rel => exact ⟨q + 1, z + 1, (.slice a10 m10 c10), csl ++ [(a9, m9, c9)], by go_num, by omega, by go_num, by rw [HNEXT.out]; show s1.ct + 1 = _; rw [HS4.out.1], by rw [HNEXT.out]; show (s1.fl.set k true).length = n; rw [List.length_set]; exact HS4.out.2.1, by rw [HNEXT.out]; show (s1.lv ++ [commonP l lf]).length = _; rw [List.length_append, HS4.out.2.2.1]; rfl, by have := HS4.out.2.2.2; omega, by rw [HNEXT.out]; exact HMORE.out, HB12.out, HZQ.out⟩
                  case measure => simp [intOf]; omega
                · go_simp
                  refine hK.out _ _ (HSS.out _ HBA.out).1 (fun hHeld => ?_)
                  clear hK K
                  try simp only [Act.put, List.getElem_toArray, List.getElem_cons_succ, List.getElem_cons_zero, List.setIfInBounds_toArray, List.set_cons_zero, List.set_cons_succ]
                  refine wpAnyH_ready (rs := [1]) (by kernel_rfl) (by simp) ?_
                  refine AllReadyH.cons (o := _) rfl (fun K hK => ?_) AllReadyH.nil
                  go_simp
                  refine hK.out _ _ (HSS.out _ HBA.out).1 (fun hHeld => ?_)
                  clear hK K
                  try simp only [Act.put, List.getElem_toArray, List.getElem_cons_succ, List.getElem_cons_zero, List.setIfInBounds_toArray, List.set_cons_zero, List.set_cons_succ]
                  clear kl9 klA
                  refine wpAnyH_ready (rs := [9]) (by kernel_rfl) (by simp) ?_
                  refine AllReadyH.cons (o := _) rfl (fun K hK => ?_) AllReadyH.nil
                  refine step_appendLs (by rfl) HSTA.out.ll HCA.out HPA.out HVA.out HUA.out (by have := HS4.out.2.2.1; omega) HZA.out rfl rfl rfl ?_
                  intro v10 w10 hls10 hg10
                  obtain ⟨a10, c10, e10, -⟩ := hls10.row
                  obtain ⟨m10, hm10⟩ : ∃ m, (s1.lv ++ [commonP l lf]).length = m := ⟨_, rfl⟩
                  rw [hm10] at e10
                  subst e10
                  clear hm10
                  have HB10 := hid (HBA.out.grown hg10 HBA.out.size (fun p hp => by have := (HSTA.out.ll.blk hp).1; have := HVB.out; omega))
                  obtain ⟨hm1, hm2, hm3, hm4⟩ := HSTA.out.more (k := k) rfl hls10 hg10 (by rw [HS4.out.2.1]; exact hlt)
                  have HMORE := hid hm1
                  obtain ⟨d0, d1, d2, d3, g0, g1, g2, g3⟩ := hm2
                  have HFL10 := hid hm3
                  have HZ10 : Hid (wf.heap.size + 2 ≤ w10.heap.size) := hid (by have := hm4.size; have := HZA.out; omega)
                  clear hls10 hg10 hm1 hm3 hm4
                  refine hK.out _ _ (HSS.out _ HB10.out).1 (fun hHeld => ?_)
                  clear hK K
                  try simp only [Act.put, List.getElem_toArray, List.getElem_cons_succ, List.getElem_cons_zero, List.setIfInBounds_toArray, List.set_cons_zero, List.set_cons_succ]
                  refine wpAnyH_ready (rs := [10]) (by kernel_rfl) (by simp) ?_
                  refine AllReadyH.cons (o := _) rfl (fun K hK => ?_) AllReadyH.nil
                  go_simp
                  refine hK.out _ _ (HSS.out _ HB10.out).1 (fun hHeld => ?_)
                  clear hK K
                  try simp only [Act.put, List.getElem_toArray, List.getElem_cons_succ, List.getElem_cons_zero, List.setIfInBounds_toArray, List.set_cons_zero, List.set_cons_succ]
                  have HB11 : Hid (Below wf.heap.size wf (w10.setCell ⟨wf.heap.size, 2, none⟩ (.slice a10 m10 c10))) := hid (below_set HB10.out (Nat.le_refl _))
                  refine wpAnyH_ready (rs := [11]) (by kernel_rfl) (by simp) ?_
                  refine AllReadyH.cons (o := _) rfl (fun K hK => ?_) AllReadyH.nil
                  go_simp
                  refine hK.out _ _ (HSS.out _ HB11.out).1 (fun hHeld => ?_)
                  clear hK K
                  try simp only [Act.put, List.getElem_toArray, List.getElem_cons_succ, List.getElem_cons_zero, List.setIfInBounds_toArray, List.set_cons_zero, List.set_cons_succ]
                  refine wpAnyH_done (by kernel_rfl) ?_ _
                  have kk : (w10.setCell ⟨wf.heap.size, 2, none⟩ (.slice a10 m10 c10)).cell? ⟨wf.heap.size + 1, k, none⟩ = some (.bool (s1.fl.getD k false)) := HFL10.out.c k (by rw [HS4.out.2.1]; exact hlt)
                  have ff : (w10.setCell ⟨wf.heap.size, 2, none⟩ (.slice a10 m10 c10)).frozen? ⟨wf.heap.size + 1, k, none⟩ = false := HFL10.out.f k
                  have HB12 : Hid (Below wf.heap.size wf ((w10.setCell ⟨wf.heap.size, 2, none⟩ (.slice a10 m10 c10)).setCell ⟨wf.heap.size + 1, k, none⟩ (.bool true))) := hid (below_set HB11.out (by have := HVB.out; omega))
                  obtain ⟨wq, hwq⟩ : ∃ x, w10.setCell ⟨wf.heap.size, 2, none⟩ (.slice a10 m10 c10) = x := ⟨_, rfl⟩
                  have HZQ : Hid (wf.heap.size + 2 ≤ (wq.setCell ⟨wf.heap.size + 1, k, none⟩ (.bool true)).heap.size) := hid (by have := HZ10.out; rw [← hwq]; simp; omega)
                  rw [hwq] at kk ff HB12 HMORE
                  clear d0 d1 d2 d3 g0 g1 g2 g3 HFL10 HB11
                  go_wp2
                  go_roundw
                  case rel => exact ⟨q + 1, z + 1, (.slice a10 m10 c10), csl ++ [(a9, m9, c9)], by go_num, by omega, by go_num, by rw [HNEXT.out]; show s1.ct + 1 = _; rw [HS4.out.1], by rw [HNEXT.out]; show (s1.fl.set k true).length = n; rw [List.length_set]; exact HS4.out.2.1, by rw [HNEXT.out]; show (s1.lv ++ [commonP l lf]).length = _; rw [List.length_append, HS4.out.2.2.1]; rfl, by have := HS4.out.2.2.2; omega, by rw [HNEXT.out]; exact HMORE.out, HB12.out, HZQ.out⟩
                  case measure => simp [intOf]; omega
            case true =>
              refine wpAnyH_take (i := 18) (oi := _) (v := .bool false) rfl (by kernel_rfl) (by kernel_rfl) (by kernel_rfl) (fun _ _ _ h => h) (Or.inl ⟨by rfl, ?_⟩) (by assumption) ?_
              · intro W hSw
                try dsimp only at hSw
                go_simp
              try simp only [Act.put, List.getElem_toArray, List.getElem_cons_succ, List.getElem_cons_zero, List.setIfInBounds_toArray, List.set_cons_zero, List.set_cons_succ]
              refine wpAnyH_take (i := 19) (oi := _) (v := .bool false) rfl (by kernel_rfl) (by kernel_rfl) (by kernel_rfl) (fun _ _ _ h => h) (Or.inl ⟨by rfl, ?_⟩) (by assumption) ?_
              · intro W hSw
                try dsimp only at hSw
                go_simp
              try simp only [Act.put, List.getElem_toArray, List.getElem_cons_succ, List.getElem_cons_zero, List.setIfInBounds_toArray, List.set_cons_zero, List.set_cons_succ]
              refine wpAnyH_done (by kernel_rfl) ?_ _
              have hno : ¬ keyL l lf = k := of_decide_eq_false HKEY.out
              have HNEXT : Hid ((F.take (q + 1)).foldl (tIn l k) s0 = s1) := hid (by rw [HFOLD.out]; unfold tIn; rw [if_neg hno])
              have HST9 := hid (HST.out.ext HB8.out)
              clear hno
              go_wp2
              go_roundw
              case rel => exact ⟨q + 1, z, vl, csl, by go_num, by omega, rfl, by rw [HNEXT.out]; exact HS4.out.1, by rw [HNEXT.out]; exact HS4.out.2.1, by rw [HNEXT.out]; exact HS4.out.2.2.1, by have := HS4.out.2.2.2; omega, by rw [HNEXT.out]; exact HST9.out, HB8f.out, by have := HB8.out.size; have := HSZ.out; omega⟩
              case measure => simp [intOf]; omega
          · have hkn : n = k := by omega
            subst hkn
            obtain ⟨s, hs⟩ : ∃ s, tTo l F n = s := ⟨_, rfl⟩
            rw [hs] at hz hfn hvn hst
            have ht1 := HT1.out
            have ht2 := HT2.out
            rw [hs] at ht1 ht2
            obtain ⟨wg, hwg⟩ : ∃ x, x = wr := ⟨_, rfl⟩
            subst hwg
            obtain ⟨hfl0, hbx0, hll0⟩ := hst
            rw [ht1] at hll0
            obtain ⟨al, cl, el, -⟩ := hll0.row
            obtain ⟨ml, hml⟩ : ∃ m, OR.length = m := ⟨_, rfl⟩
            rw [hml] at el
            subst el
            have HML := hid hml
            have HZS := hid hz
            have HFL0 := hid hfl0
            have HBX0 := hid hbx0
            have HLL0 := hid hll0
            have HT2' := hid ht2
            have HFS := hid hfn
            have HBG := hid hb
            have HSZ := hid hsz
            have hz600 : z ≤ 600 := by have := HN24.out; omega
            have HZ600 := hid hz600
            clear hz hfn hvn hz24 hs ht1 ht2 hfl0 hbx0 hll0 hml hb hsz hk hlt HT1 HT2 hz600
            go_wp2
            go_loopw [27, 30] (fun ct i wx => ∃ (k z' : Nat), i = .int .i64 k ∧ k ≤ n ∧ ct = .int .i64 z' ∧ (fTo (s.fl, s.ct) k).2 = z' ∧ (fTo (s.fl, s.ct) k).1.length = n ∧ z' ≤ 600 + k ∧ BoolR wx (wf.heap.size + 1) (fTo (s.fl, s.ct) k).1 ∧ Mut (fun p => p = wf.heap.size + 1) wg wx) (fun _ i _ => n - (intOf i).toNat)
            case atStart => exact ⟨0, z, rfl, Nat.zero_le _, rfl, HZS.out, HFS.out, by have := HZ600.out; omega, HFL0.out, Mut.refl _ _⟩
            case round =>
            obtain ⟨k, z', rfl, hk, rfl, hz, hfn, hz6, hfl, hm⟩ := hrel
            by_cases hlt : k < n
            · have hk24 : k ≤ 24 := by have := HN24.out; omega
              obtain ⟨fk, hfk⟩ : ∃ b, (fTo (s.fl, s.ct) k).1.getD k false = b := ⟨_, rfl⟩
              have kk := hfl.c k (by rw [hfn]; exact hlt)
              rw [hfk] at kk
              have ff := hfl.f k
              have hsucc := fTo_succ (s.fl, s.ct) k
              unfold fStep at hsucc
              rw [hz, hfk] at hsucc
              have HFN' := hid hfn
              have HFL := hid hfl
              have HM := hid hm
              have HZ := hid hz
              by_cases h3 : z' < 3
              · have p1 : decide ((z' : Int) < 3) = true := decide_eq_true (by omega)
                cases fk
                case true =>
                  rw [if_neg (by simp)] at hsucc
                  have HSU := hid hsucc
                  clear hz hfn hfl hm hsucc hfk ff
                  go_wp2
                  go_roundw
                  case rel => exact ⟨k + 1, z', by go_num, by omega, rfl, by rw [HSU.out]; exact HZ.out, by rw [HSU.out]; exact HFN'.out, by omega, by rw [HSU.out]; exact HFL.out, HM.out⟩
                  case measure => simp [intOf]; omega
                case false =>
                  rw [if_pos ⟨h3, rfl⟩] at hsucc
                  have HSU := hid hsucc
                  have HFL2 := hid (hfl.set (k := k) (by rw [hfn]; exact hlt) true)
                  have HM2 := hid (hm.trans (mut1 (s := wf.heap.size + 1) (i := k) (v := .bool true)))
                  clear hz hfn hfl hm hsucc hfk
                  go_wp2
                  go_roundw
                  case rel => exact ⟨k + 1, z' + 1, by go_num, by omega, by go_num, by rw [HSU.out], by rw [HSU.out]; show ((fTo (s.fl, s.ct) k).1.set k true).length = n; rw [List.length_set]; exact HFN'.out, by omega, by rw [HSU.out]; exact HFL2.out, HM2.out⟩
                  case measure => simp [intOf]; omega
              · have p1 : decide ((z' : Int) < 3) = false := decide_eq_false (by omega)
                rw [if_neg (fun e => h3 e.1)] at hsucc
                have HSU := hid hsucc
                have H3 := hid h3
                clear hz hfn hfl hm hsucc hfk ff kk h3
                go_wp2
                go_roundw
                case rel => exact ⟨k + 1, z', by go_num, by omega, rfl, by rw [HSU.out]; exact HZ.out, by rw [HSU.out]; exact HFN'.out, by omega, by rw [HSU.out]; exact HFL.out, HM.out⟩
                case measure => simp [intOf]; omega
            · have hkn : n = k := by omega
              subst hkn
              obtain ⟨fl2, hfl2⟩ : ∃ x, (fTo (s.fl, s.ct) n).1 = x := ⟨_, rfl⟩
              have ht2 := HT2'.out
              rw [hfl2] at ht2 hfl hfn
              obtain ⟨wi, hwi⟩ : ∃ x, x = wr := ⟨_, rfl⟩
              subst hwi
              have hsm := hm.size
              have HBX1 := hid (HBX0.out.mutT hm (fun e => by omega))
              have HLL1 := hid (HLL0.out.mutT hm (fun p e => by omega))
              have HFL1 := hid hfl
              have HFN1 := hid hfn
              have HBI : Hid (Below wf.heap.size wf wi) := hid (HBG.out.trans (hm.below HBG.out.size (fun p e => by omega)))
              have HSZI : Hid (wf.heap.size + 2 ≤ wi.heap.size) := hid (by have := HSZ.out; omega)
              have HLE0 : Hid (LE = [] ++ pickL (l.drop 0) (fl2.drop 0)) := hid (by simpa using ht2.symm)
              clear hz hfl hfn hm hfl2 ht2 hsm hk hlt hz6 HT2' HFL0 HBX0 HLL0 HZS HFS
              go_wp2
              go_loopw [31] (fun i wx => ∃ (k : Nat) (got : List Pid) (vd : Value), i = .int .i64 k ∧ k ≤ n ∧ OwnP wx wi.heap.size vd got ∧ got.length ≤ k ∧ Hid (LE = got ++ pickL (l.drop k) (fl2.drop k)) ∧ BoxV wx wf.heap.size (.int .u64 1) (.slice a4 n c4) (.slice al ml cl) vd ∧ Mut (fun p => p = wf.heap.size) wi wx) (fun i _ => n - (intOf i).toNat)
              case atStart => exact ⟨0, [], .slice none 0 0, rfl, Nat.zero_le _, OwnP.nil _ _, Nat.le_refl _, HLE0.out, HBX1.out, Mut.refl _ _⟩
              case round =>
              obtain ⟨k, got, vd, rfl, hk, hown, hgk, hle, hbx, hm⟩ := hrel
              by_cases hlt : k < n
              · have hkl : k < l.length := by rw [hn.out]; exact hlt
                have hbwf : Below wf.heap.size wf wr := HBI.out.trans (hm.below HBI.out.size (fun p e => by omega))
                have hkk := HFL1.out.mutN hm (fun e => by omega)
                have kk := hkk.c k (by rw [HFN1.out]; exact hlt)
                obtain ⟨fk, hfk⟩ : ∃ b, fl2.getD k false = b := ⟨_, rfl⟩
                rw [hfk] at kk
                obtain ⟨pb, po, x, y, e4, hxy, p0, p1⟩ := (HPR.out wr (HBF.out.trans (hbwf.mono HBF.out.size))).1.at (Below.refl _ _) rfl hkl
                have hpd := pick_drop hkl (by rw [HFN1.out, hn.out]) hxy
                rw [hfk] at hpd
                obtain ⟨ad, cd, ed, -⟩ := hown.row
                obtain ⟨md, hmd⟩ : ∃ m, got.length = m := ⟨_, rfl⟩
                rw [hmd] at ed
                subst ed
                have HOWN := hid hown
                have HGK := hid hgk
                have HBX := hid hbx
                have HM := hid hm
                have HBWF := hid hbwf
                have hk24 : k ≤ 24 := by have := HN24.out; omega
                have HSZW : Hid (wi.heap.size ≤ wr.heap.size) := hid hm.size
                cases fk
                case false =>
                  rw [if_neg (by simp)] at hpd
                  have HLE2 := hid (hle.out.trans (by rw [hpd]))
                  clear hkk hbwf hxy p0 p1 hpd hfk hown hgk hle hbx hm hmd hkl
                  go_wp2
                  go_roundw
                  case rel => exact ⟨k + 1, got, _, by go_num, by omega, HOWN.out, by have := HGK.out; omega, HLE2.out, HBX.out, HM.out⟩
                  case measure => simp [intOf]; omega
                case true =>
                rw [if_pos rfl] at hpd
                have HLE2 : Hid (LE = (got ++ [(x, y)]) ++ pickL (l.drop (k + 1)) (fl2.drop (k + 1))) := hid (hle.out.trans (by rw [hpd]; simp))
                have hpbl := World.block_lt_of_cell? wr _ p0
                subst e4
                have HS64 : Hid (∀ X, Below wr.heap.size wr X → X.cell? ⟨pb, po + k * 2, none⟩ = some (.int .u16 x) ∧ X.cell? ⟨pb, po + k * 2 + 1, none⟩ = some (.int .u32 y)) := hid fun X h => ⟨cell_to p0 h, cell_to p1 h⟩
                have HPBV : Hid (pb < wf.heap.size) := hid (by
                  obtain ⟨pb', po', e', hlt', -⟩ := (HPR.out w4 (Below.refl _ _)).1.get (by omega)
                  injection e' with e''
                  injection e'' with e1 e2
                  have := HBF.out.size
                  omega)
                have HGM := hid hmd
                clear hkk hbwf hxy p0 p1 hpd hfk hown hgk hle hbx hm hmd hkl hpbl
                go_wp2
                have hbA : Below wr.heap.size wr (wr.drew.alloc (.cells #[.int .u16 x, .int .u32 y] 26)) := (Below.refl wr.heap.size wr).drew.alloc (Nat.le_refl _) _
                have HBA := hid hbA
                have kd : wr.drew.cell? ⟨wf.heap.size, 3, none⟩ = some (.slice ad md cd) := HBX.out.c3
                have kda : (wr.drew.alloc (.cells #[.int .u16 x, .int .u32 y] 26)).cell? ⟨wf.heap.size, 3, none⟩ = some (.slice ad md cd) := (HBX.out.ext hbA).c3
                have kdb : (wr.alloc (.cells #[.int .u16 x, .int .u32 y] 26)).cell? ⟨wf.heap.size, 3, none⟩ = some (.slice ad md cd) := (HBX.out.ext ((Below.refl _ _).alloc (Nat.le_refl _) _)).c3
                have HZA64 : Hid (wi.heap.size ≤ (wr.drew.alloc (.cells #[.int .u16 x, .int .u32 y] 26)).heap.size) := hid (by have := hbA.size; have := HSZW.out; omega)
                have HOA := hid (HOWN.out.ext hbA)
                have HRA : Hid (PidRow (wr.drew.alloc (.cells #[.int .u16 x, .int .u32 y] 26)) (some ⟨wr.heap.size, 0, none⟩) [(x, y)]) := hid (PidRow.one wr.drew x y)
                clear hbA
                refine wp_region_held_drew (S := fun X => X.cell? ⟨pb, po + k * 2, none⟩ = some (.int .u16 x) ∧ X.cell? ⟨pb, po + k * 2 + 1, none⟩ = some (.int .u32 y)) (by kernel_rfl) (by exact HS64.out _ (Below.refl _ _).drew) (fun hHeld => ?_)
                refine wpAnyH_take (i := 0) (oi := _) (v := .pointer (some ⟨wf.heap.size, 3, none⟩)) rfl (by kernel_rfl) (by kernel_rfl) (by kernel_rfl) (fun _ _ _ h => h) (Or.inl ⟨by rfl, ?_⟩) (by assumption) ?_
                · intro W hSw
                  try dsimp only at hSw
                  go_simp
                try simp only [Act.put, List.getElem_toArray, List.getElem_cons_succ, List.getElem_cons_zero, List.setIfInBounds_toArray, List.set_cons_zero, List.set_cons_succ]
                refine wpAnyH_take (i := 2) (oi := _) (v := .slice (some ⟨pb, po, none⟩) n c4) rfl (by kernel_rfl) (by kernel_rfl) (by kernel_rfl) (fun _ _ _ h => h) (Or.inl ⟨by rfl, ?_⟩) (by assumption) ?_
                · intro W hSw
                  try dsimp only at hSw
                  go_simp
                try simp only [Act.put, List.getElem_toArray, List.getElem_cons_succ, List.getElem_cons_zero, List.setIfInBounds_toArray, List.set_cons_zero, List.set_cons_succ]
                refine wpAnyH_take (i := 3) (oi := _) (v := .int .i64 (k : Int)) rfl (by kernel_rfl) (by kernel_rfl) (by kernel_rfl) (fun _ _ _ h => h) (Or.inl ⟨by rfl, ?_⟩) (by assumption) ?_
                · intro W hSw
                  try dsimp only at hSw
                  go_simp
                try simp only [Act.put, List.getElem_toArray, List.getElem_cons_succ, List.getElem_cons_zero, List.setIfInBounds_toArray, List.set_cons_zero, List.set_cons_succ]
                refine wpAnyH_take (i := 4) (oi := _) (v := .pointer (some ⟨pb, po + k * 2, none⟩)) rfl (by kernel_rfl) (by kernel_rfl) (by kernel_rfl) (fun _ _ _ h => h) (Or.inl ⟨by rfl, ?_⟩) (by assumption) ?_
                · intro W hSw
                  try dsimp only at hSw
                  go_simp
                try simp only [Act.put, List.getElem_toArray, List.getElem_cons_succ, List.getElem_cons_zero, List.setIfInBounds_toArray, List.set_cons_zero, List.set_cons_succ]
                refine wpAnyH_take (i := 5) (oi := _) (v := .agg #[.int .u16 x, .int .u32 y]) rfl (by kernel_rfl) (by kernel_rfl) (by kernel_rfl) (fun _ _ _ h => h) (Or.inl ⟨by rfl, ?_⟩) (by assumption) ?_
                · intro W hSw
                  try dsimp only at hSw
                  obtain ⟨h1, h2⟩ := hSw
                  go_simp
                try simp only [Act.put, List.getElem_toArray, List.getElem_cons_succ, List.getElem_cons_zero, List.setIfInBounds_toArray, List.set_cons_zero, List.set_cons_succ]
                refine wpAnyH_ready (rs := [1, 6]) (by kernel_rfl) (by simp) ?_
                refine AllReadyH.cons (o := _) rfl (fun K hK => ?_) (AllReadyH.cons (o := _) rfl (fun K hK => ?_) AllReadyH.nil)
                · go_simp
                  refine hK.out _ _ (HS64.out _ (Below.refl _ _).drew) (fun hHeld => ?_)
                  clear hK K
                  try simp only [Act.put, List.getElem_toArray, List.getElem_cons_succ, List.getElem_cons_zero, List.setIfInBounds_toArray, List.set_cons_zero, List.set_cons_succ]
                  refine wpAnyH_ready (rs := [6]) (by kernel_rfl) (by simp) ?_
                  refine AllReadyH.cons (o := _) rfl (fun K hK => ?_) AllReadyH.nil
                  go_simp
                  refine hK.out _ _ (HS64.out _ HBA.out) (fun hHeld => ?_)
                  clear hK K
                  try simp only [Act.put, List.getElem_toArray, List.getElem_cons_succ, List.getElem_cons_zero, List.setIfInBounds_toArray, List.set_cons_zero, List.set_cons_succ]
                  clear kd kda kdb
                  refine wpAnyH_ready (rs := [7]) (by kernel_rfl) (by simp) ?_
                  refine AllReadyH.cons (o := _) rfl (fun K hK => ?_) AllReadyH.nil
                  refine step_appendPat (by rfl) HOA.out HRA.out (hid rfl) (by have := HGK.out; simp; omega) HZA64.out rfl rfl rfl ?_
                  intro v8 w8 hown8 hg8 hat8
                  obtain ⟨a8, c8, e8, -⟩ := hown8.row
                  obtain ⟨m8, hm8⟩ : ∃ m, (got ++ [(x, y)]).length = m := ⟨_, rfl⟩
                  rw [hm8] at e8
                  subst e8
                  have hgm := grown_mutS hg8
                  have hblk : ∀ p, (Value.slice ad md cd).ownBlock = some p → wi.heap.size ≤ p := fun p hp => (HOA.out.blk hp).1
                  have hmw : Mut (fun p => p = wf.heap.size) wi w8 := Mut.far (HM.out.trans (Mut.of_below HBA.out)) hgm (fun p hp e => by have := hblk p e; omega)
                  obtain ⟨d0, d1, d2, d3, g0, g1, g2, g3⟩ := id ((HBX.out.ext HBA.out).mutT hgm (fun e => by have := hblk _ e; have := HSZI.out; omega))
                  have HBX8 := hid (((HBX.out.ext HBA.out).mutT hgm (fun e => by have := hblk _ e; have := HSZI.out; omega)).set3 (.slice a8 m8 c8))
                  have c8a : w8.cell? ⟨pb, po + k * 2, none⟩ = some (.int .u16 x) ∧ w8.cell? ⟨pb, po + k * 2 + 1, none⟩ = some (.int .u32 y) := by
                    have hpl : pb < (wr.drew.alloc (.cells #[.int .u16 x, .int .u32 y] 26)).heap.size := by have := HBA.out.size; have := HSZW.out; have := HSZI.out; have := HPBV.out; omega
                    have hnb : ¬ (Value.slice ad md cd).ownBlock = some pb := fun e => by have := hblk _ e; have := HSZI.out; have := HPBV.out; omega
                    obtain ⟨q1, q2⟩ := HS64.out _ HBA.out
                    exact ⟨(hgm.cell (p := ⟨pb, po + k * 2, none⟩) hpl hnb).trans q1, (hgm.cell (p := ⟨pb, po + k * 2 + 1, none⟩) hpl hnb).trans q2⟩
                  have HC8 := hid c8a
                  have HM8 := hid (hmw.trans (mut1 (s := wf.heap.size) (i := 3) (v := .slice a8 m8 c8)))
                  have HO8 : Hid (OwnP (w8.setCell ⟨wf.heap.size, 3, none⟩ (.slice a8 m8 c8)) wi.heap.size (.slice a8 m8 c8) (got ++ [(x, y)])) := hid (hown8.mutN (G := fun p => p = wf.heap.size) mut1 (fun p hp e => by have h1 := (hown8.blk hp).1; have := HSZI.out; have e : p = wf.heap.size := e; omega))
                  have HC9 : Hid ((w8.setCell ⟨wf.heap.size, 3, none⟩ (.slice a8 m8 c8)).cell? ⟨pb, po + k * 2, none⟩ = some (.int .u16 x) ∧ (w8.setCell ⟨wf.heap.size, 3, none⟩ (.slice a8 m8 c8)).cell? ⟨pb, po + k * 2 + 1, none⟩ = some (.int .u32 y)) := hid (by
                    have hs1 : Mut (fun p => p = wf.heap.size) w8 (w8.setCell ⟨wf.heap.size, 3, none⟩ (.slice a8 m8 c8)) := mut1
                    have hpl : pb < w8.heap.size := by have := hmw.size; have := HSZI.out; have := HPBV.out; omega
                    have hnb : ¬ pb = wf.heap.size := by have := HPBV.out; omega
                    exact ⟨(hs1.cell (p := ⟨pb, po + k * 2, none⟩) hpl hnb).trans c8a.1, (hs1.cell (p := ⟨pb, po + k * 2 + 1, none⟩) hpl hnb).trans c8a.2⟩)
                  clear hown8 hg8 hat8 hm8 hgm hblk hmw c8a
                  refine hK.out _ _ (HC8.out) (fun hHeld => ?_)
                  clear hK K
                  try simp only [Act.put, List.getElem_toArray, List.getElem_cons_succ, List.getElem_cons_zero, List.setIfInBounds_toArray, List.set_cons_zero, List.set_cons_succ]
                  refine wpAnyH_ready (rs := [8]) (by kernel_rfl) (by simp) ?_
                  refine AllReadyH.cons (o := _) rfl (fun K hK => ?_) AllReadyH.nil
                  go_simp
                  refine hK.out _ _ (HC8.out) (fun hHeld => ?_)
                  clear hK K
                  try simp only [Act.put, List.getElem_toArray, List.getElem_cons_succ, List.getElem_cons_zero, List.setIfInBounds_toArray, List.set_cons_zero, List.set_cons_succ]
                  refine wpAnyH_ready (rs := [9]) (by kernel_rfl) (by simp) ?_
                  refine AllReadyH.cons (o := _) rfl (fun K hK => ?_) AllReadyH.nil
                  go_simp
                  refine hK.out _ _ (HC9.out) (fun hHeld => ?_)
                  clear hK K
                  try simp only [Act.put, List.getElem_toArray, List.getElem_cons_succ, List.getElem_cons_zero, List.setIfInBounds_toArray, List.set_cons_zero, List.set_cons_succ]
                  refine wpAnyH_done (by kernel_rfl) ?_ _
                  clear d0 d1 d2 d3 g0 g1 g2 g3
                  go_wp2
                  go_roundw
                  case rel => exact ⟨k + 1, got ++ [(x, y)], _, by go_num, by omega, HO8.out, by have := HGK.out; simp; omega, HLE2.out, HBX8.out, HM8.out⟩
                  case measure => simp [intOf]; omega
                · go_simp
                  refine hK.out _ _ (HS64.out _ HBA.out) (fun hHeld => ?_)
                  clear hK K
                  try simp only [Act.put, List.getElem_toArray, List.getElem_cons_succ, List.getElem_cons_zero, List.setIfInBounds_toArray, List.set_cons_zero, List.set_cons_succ]
                  refine wpAnyH_ready (rs := [1]) (by kernel_rfl) (by simp) ?_
                  refine AllReadyH.cons (o := _) rfl (fun K hK => ?_) AllReadyH.nil
                  go_simp
                  refine hK.out _ _ (HS64.out _ HBA.out) (fun hHeld => ?_)
                  clear hK K
                  try simp only [Act.put, List.getElem_toArray, List.getElem_cons_succ, List.getElem_cons_zero, List.setIfInBounds_toArray, List.set_cons_zero, List.set_cons_succ]
                  clear kd kda kdb
                  refine wpAnyH_ready (rs := [7]) (by kernel_rfl) (by simp) ?_
                  refine AllReadyH.cons (o := _) rfl (fun K hK => ?_) AllReadyH.nil
                  refine step_appendPat (by rfl) HOA.out HRA.out (hid rfl) (by have := HGK.out; simp; omega) HZA64.out rfl rfl rfl ?_
                  intro v8 w8 hown8 hg8 hat8
                  obtain ⟨a8, c8, e8, -⟩ := hown8.row
                  obtain ⟨m8, hm8⟩ : ∃ m, (got ++ [(x, y)]).length = m := ⟨_, rfl⟩
                  rw [hm8] at e8
                  subst e8
                  have hgm := grown_mutS hg8
                  have hblk : ∀ p, (Value.slice ad md cd).ownBlock = some p → wi.heap.size ≤ p := fun p hp => (HOA.out.blk hp).1
                  have hmw : Mut (fun p => p = wf.heap.size) wi w8 := Mut.far (HM.out.trans (Mut.of_below HBA.out)) hgm (fun p hp e => by have := hblk p e; omega)
                  obtain ⟨d0, d1, d2, d3, g0, g1, g2, g3⟩ := id ((HBX.out.ext HBA.out).mutT hgm (fun e => by have := hblk _ e; have := HSZI.out; omega))
                  have HBX8 := hid (((HBX.out.ext HBA.out).mutT hgm (fun e => by have := hblk _ e; have := HSZI.out; omega)).set3 (.slice a8 m8 c8))
                  have c8a : w8.cell? ⟨pb, po + k * 2, none⟩ = some (.int .u16 x) ∧ w8.cell? ⟨pb, po + k * 2 + 1, none⟩ = some (.int .u32 y) := by
                    have hpl : pb < (wr.drew.alloc (.cells #[.int .u16 x, .int .u32 y] 26)).heap.size := by have := HBA.out.size; have := HSZW.out; have := HSZI.out; have := HPBV.out; omega
                    have hnb : ¬ (Value.slice ad md cd).ownBlock = some pb := fun e => by have := hblk _ e; have := HSZI.out; have := HPBV.out; omega
                    obtain ⟨q1, q2⟩ := HS64.out _ HBA.out
                    exact ⟨(hgm.cell (p := ⟨pb, po + k * 2, none⟩) hpl hnb).trans q1, (hgm.cell (p := ⟨pb, po + k * 2 + 1, none⟩) hpl hnb).trans q2⟩
                  have HC8 := hid c8a
                  have HM8 := hid (hmw.trans (mut1 (s := wf.heap.size) (i := 3) (v := .slice a8 m8 c8)))
                  have HO8 : Hid (OwnP (w8.setCell ⟨wf.heap.size, 3, none⟩ (.slice a8 m8 c8)) wi.heap.size (.slice a8 m8 c8) (got ++ [(x, y)])) := hid (hown8.mutN (G := fun p => p = wf.heap.size) mut1 (fun p hp e => by have h1 := (hown8.blk hp).1; have := HSZI.out; have e : p = wf.heap.size := e; omega))
                  have HC9 : Hid ((w8.setCell ⟨wf.heap.size, 3, none⟩ (.slice a8 m8 c8)).cell? ⟨pb, po + k * 2, none⟩ = some (.int .u16 x) ∧ (w8.setCell ⟨wf.heap.size, 3, none⟩ (.slice a8 m8 c8)).cell? ⟨pb, po + k * 2 + 1, none⟩ = some (.int .u32 y)) := hid (by
                    have hs1 : Mut (fun p => p = wf.heap.size) w8 (w8.setCell ⟨wf.heap.size, 3, none⟩ (.slice a8 m8 c8)) := mut1
                    have hpl : pb < w8.heap.size := by have := hmw.size; have := HSZI.out; have := HPBV.out; omega
                    have hnb : ¬ pb = wf.heap.size := by have := HPBV.out; omega
                    exact ⟨(hs1.cell (p := ⟨pb, po + k * 2, none⟩) hpl hnb).trans c8a.1, (hs1.cell (p := ⟨pb, po + k * 2 + 1, none⟩) hpl hnb).trans c8a.2⟩)
                  clear hown8 hg8 hat8 hm8 hgm hblk hmw c8a
                  refine hK.out _ _ (HC8.out) (fun hHeld => ?_)
                  clear hK K
                  try simp only [Act.put, List.getElem_toArray, List.getElem_cons_succ, List.getElem_cons_zero, List.setIfInBounds_toArray, List.set_cons_zero, List.set_cons_succ]
                  refine wpAnyH_ready (rs := [8]) (by kernel_rfl) (by simp) ?_
                  refine AllReadyH.cons (o := _) rfl (fun K hK => ?_) AllReadyH.nil
                  go_simp
                  refine hK.out _ _ (HC8.out) (fun hHeld => ?_)
                  clear hK K
                  try simp only [Act.put, List.getElem_toArray, List.getElem_cons_succ, List.getElem_cons_zero, List.setIfInBounds_toArray, List.set_cons_zero, List.set_cons_succ]
                  refine wpAnyH_ready (rs := [9]) (by kernel_rfl) (by simp) ?_
                  refine AllReadyH.cons (o := _) rfl (fun K hK => ?_) AllReadyH.nil
                  go_simp
                  refine hK.out _ _ (HC9.out) (fun hHeld => ?_)
                  clear hK K
                  try simp only [Act.put, List.getElem_toArray, List.getElem_cons_succ, List.getElem_cons_zero, List.setIfInBounds_toArray, List.set_cons_zero, List.set_cons_succ]
                  refine wpAnyH_done (by kernel_rfl) ?_ _
                  clear d0 d1 d2 d3 g0 g1 g2 g3
                  go_wp2
                  go_roundw
                  case rel => exact ⟨k + 1, got ++ [(x, y)], _, by go_num, by omega, HO8.out, by have := HGK.out; simp; omega, HLE2.out, HBX8.out, HM8.out⟩
                  case measure => simp [intOf]; omega
              · have hkn : n = k := by omega
                subst hkn
                have hle' := hle.out
                rw [List.drop_eq_nil_of_le (by rw [hn.out]; exact Nat.le_refl _)] at hle'
                have hleg : LE = got := by
                  rw [hle']
                  unfold pickL
                  simp
                subst hleg
                obtain ⟨ad, cd, ed, hrd, hbd⟩ := hown.row
                obtain ⟨md, hmd⟩ : ∃ m, LE.length = m := ⟨_, rfl⟩
                rw [hmd] at ed
                subst ed
                have hbwf : Below wf.heap.size wf wr := HBI.out.trans (hm.below HBI.out.size (fun p e => by omega))
                have hb4 := HBF.out.trans (hbwf.mono HBF.out.size)
                obtain ⟨h0, h1, h2, h3, -, -, -, -⟩ := hbx
                obtain ⟨d0, d1, d2, d3, g0, g1, g2, g3⟩ := id (HPR.out wr hb4).2.2.2
                have DD := hid ((HPR.out wr hb4).2.2.2.put (.int .u64 1) (.slice a4 n c4) (.slice al ml cl) (.slice ad md cd))
                have hset : Mut (fun p => p = w.heap.size + 1) wr ((((wr.setCell ⟨w.heap.size + 1, 0, none⟩ (.int .u64 1)).setCell ⟨w.heap.size + 1, 1, none⟩ (.slice a4 n c4)).setCell ⟨w.heap.size + 1, 2, none⟩ (.slice al ml cl)).setCell ⟨w.heap.size + 1, 3, none⟩ (.slice ad md cd)) := mut4
                have HRB := hid (below_put4 (b := w.heap.size + 1) (u0 := .int .u64 1) (u1 := .slice a4 n c4) (u2 := .slice al ml cl) (u3 := .slice ad md cd) (HW4.out.trans (hb4.mono HW4.out.size)) (by omega))
                have hr1 := (HPR.out wr hb4).1.mutN hset (fun p off e eq => by have := HBK4.out p off e; have eq : p = w.heap.size + 1 := eq; omega)
                have hll := (HLL1.out.mutT hm (fun p e => by omega)).mutT hset (fun p e => by have := HZ4.out; have := HBF.out.size; have e : p = w.heap.size + 1 := e; omega)
                have hrd2 := hrd.mutN hset (fun p off e eq => by have := hbd p off e; have eq : p = w.heap.size + 1 := eq; have := HZ4.out; have := HBF.out.size; have := HSZI.out; omega)
                have HVR : Hid (Stab w.heap.size ((((wr.setCell ⟨w.heap.size + 1, 0, none⟩ (.int .u64 1)).setCell ⟨w.heap.size + 1, 1, none⟩ (.slice a4 n c4)).setCell ⟨w.heap.size + 1, 2, none⟩ (.slice al ml cl)).setCell ⟨w.heap.size + 1, 3, none⟩ (.slice ad md cd)) a4 al ad ⟨1, l, OR, LE⟩) := hid fun G hG W' hmG => ⟨hr1.mutN hmG (fun p off e hg => by have := HBK4.out p off e; have := hG p hg; omega), by
                  obtain ⟨al', cl', e', hr'⟩ := (hll.mutT hmG (fun p e => by have := hG p e; have := HZ4.out; have := HBF.out.size; omega)).row
                  injection e' with e1 e2 e3
                  subst e1
                  exact hr', hrd2.mutN hmG (fun p off e hg => by have := hbd p off e; have := hG p hg; have := HZ4.out; have := HBF.out.size; have := HSZI.out; omega), by show l.length ≤ _; rw [hn.out]; have := HN24.out; omega, by
                  show OR.length ≤ _
                  have h5 := HORN.out
                  omega, by show LE.length ≤ _; have := HLEL.out; omega, fun y1 hy => by have := HORL.out y1 hy; omega⟩
                have HMD := hid hmd
                have HV0 : Hid (V.id = 1 ∧ V.ms = l ∧ V.ls = OR ∧ V.ds = LE ∧ er = 0) := hid (by obtain ⟨e1, e2⟩ := HVE.out; rw [e1]; exact ⟨rfl, rfl, rfl, rfl, e2⟩)
                clear hle hle' hown hrd hbd hbwf hb4 hset hr1 hll hrd2 hm hgk hmd hk hlt HLE0
                go_wp2_with fail
                obtain ⟨q0, q1, q2, q3, -, -, -, -⟩ := DD.out
                refine bodyPost_ret (v := .tuple #[.agg #[.int .u64 1, .slice a4 n c4, .slice al ml cl, .slice ad md cd], .int .i64 0]) (by simp [results, Try.results168, go_sem, q0, q1, q2, q3]) rfl ?_
                obtain ⟨e1, e2⟩ := HVE.out
                refine ⟨a4, al, ad, c4, cl, cd, ?_, by rw [e1]; exact HVR.out, HRB.out⟩
                rw [e1, e2]
                show _ = Ending.returned (.tuple #[.agg #[.int .u64 1, .slice a4 l.length c4, .slice al OR.length cl, .slice ad LE.length cd], .int .i64 0])
                rw [hn.out, HML.out, HMD.out]
end Go.Proofs.Ytbpfhclcjedkcaa


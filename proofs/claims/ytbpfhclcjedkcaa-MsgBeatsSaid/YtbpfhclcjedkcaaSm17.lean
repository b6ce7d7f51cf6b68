/- Parts of the proof: X41 X32 X42. -/
import Derived.Test.YtbpfhclcjedkcaaSm13
import Derived.Test.YtbpfhclcjedkcaaX37
namespace Go.Proofs.Ytbpfhclcjedkcaa
open Go.RowKit

/-! ### the reference's reader -/
set_option maxRecDepth 100000 in
set_option maxHeartbeats 1600000 in
theorem rNumR_any {s c : Nat} {a : Option Addr} {S : RS} {w : World} (most : Nat) (h : RdIs w s a c S) :
    Calls Try.prog 119 #[.pointer (some ⟨s, 0, none⟩), .int .u64 most] w fun e w' => e = .returned (.int .u64 (rNum most S).1) ∧ (∃ a' c', RdIs w' s a' c' (rNum most S).2) ∧ Mut (fun k => k = s) w w' := by
  have c0 := h.c0
  have c1 := h.c1
  have f0 := h.f0
  have f1 := h.f1
  obtain ⟨n, hn⟩ : ∃ n, S.b.length = n := ⟨_, rfl⟩
  have hlen := h.len
  have hcap := h.cap
  rw [hn] at c0 hlen hcap
  have HN := hid hn
  have HBY := hid h.byt
  have hrow := h.row
  clear hn
  by_cases he : S.e = 0
  · rw [he] at c1
    obtain ⟨⟨x, u, e⟩, hG⟩ : ∃ q, getS S.b = q := ⟨_, rfl⟩
    have hok := getFrom_ok S.b 0 0 (by decide) (by decide)
    rw [show getFrom 0 0 S.b = getS S.b from rfl, hG] at hok
    simp only at hok
    have HG := hid hG
    have HE := hid he
    have GS := hid (getShortR_is (c := c) HG HN hlen HBY.out hrow)
    clear hG he
    by_cases he2 : e = 0
    · subst he2
      obtain ⟨q1, q2, q3, q4⟩ := hok rfl
      rw [HN.out] at q3
      have hu : u ≤ n := by omega
      clear hok
      by_cases hx : most < x
      · have HR : Hid (rNum most S = (0, ⟨S.b, 3⟩)) := hid (by unfold rNum; simp only [HG.out]; rw [if_neg (by simp [HE.out]), if_neg (by simp), if_pos hx])
        have t1 : decide (most < x) = true := by simpa using hx
        have t1' : decide ((most : Int) < (x : Int)) = true := by simpa using hx
        have t1'' : decide ((x : Int) > (most : Int)) = true := by simpa using hx
        have HB : Hid (RdIs (w.setCell ⟨s, 1, none⟩ (.int .i64 3)) s a c ⟨S.b, 3⟩) := hid (h.bad 3)
        go_enter Try.func119, Try.ntmps119
        go_wp2_with fail
        refine GS.out.mono ?_
        rintro e w' ⟨rfl, rfl⟩
        go_wp2
        go_ret
        exact ⟨by rw [HR.out]; rfl, ⟨a, c, by rw [HR.out]; exact HB.out⟩, mut1⟩
      · have t1 : decide (most < x) = false := by simpa using hx
        have t1' : decide ((most : Int) < (x : Int)) = false := by simpa using hx
        have t1'' : decide ((x : Int) > (most : Int)) = false := by simpa using hx
        obtain ⟨A1, hA1⟩ : ∃ A, (if c = u then a else a.map (·.add (u * 1))) = A := ⟨_, rfl⟩
        have hrun := fun W => run_fromB (a := a) (c := c) hu W
        have hr2 := hrow.cut (k := u) (c := c) (by rw [HN.out]; exact hcap)
        have hf2 := hrow.cutA (k := u) (c := c) h.far
        rw [hA1] at hr2 hf2
        simp only [hA1] at hrun
        obtain ⟨n2, hn2⟩ : ∃ n2, n - u = n2 := ⟨_, rfl⟩
        obtain ⟨c2, hc2⟩ : ∃ c2, c - u = c2 := ⟨_, rfl⟩
        simp only [hn2, hc2] at hrun
        have hdl : (S.b.drop u).length = n2 := by rw [List.length_drop, HN.out, hn2]
        have HR : Hid (rNum most S = (x, ⟨S.b.drop u, 0⟩)) := hid (by unfold rNum; simp only [HG.out]; rw [if_neg (by simp [HE.out]), if_neg (by simp), if_neg hx])
        have HP : Hid (RdIs (w.setCell ⟨s, 0, none⟩ (.slice A1 n2 c2)) s A1 c2 ⟨S.b.drop u, S.e⟩) := hid (h.put hdl.symm hr2 hf2 (by omega) (fun b hb => HBY.out b (List.mem_of_mem_drop hb)) (by omega))
        clear hA1 hn2 hc2 hr2 hf2 hdl
        go_enter Try.func119, Try.ntmps119
        go_wp2_with fail
        refine GS.out.mono ?_
        rintro e w' ⟨rfl, rfl⟩
        go_wp2
        go_ret
        exact ⟨by rw [HR.out]; rfl, ⟨A1, c2, by rw [HR.out]; have := HP.out; rw [HE.out] at this; exact this⟩, mut1⟩
    · have HR : Hid (rNum most S = (0, ⟨S.b, e⟩)) := hid (by unfold rNum; simp only [HG.out]; rw [if_neg (by simp [HE.out]), if_pos he2])
      have t2 : ((e : Int) == 0) = false := by simp; omega
      have t4 : ((e : Int) != 0) = true := by simp; omega
      have HB : Hid (RdIs (w.setCell ⟨s, 1, none⟩ (.int .i64 e)) s a c ⟨S.b, e⟩) := hid (h.bad e)
      clear hok he2
      go_enter Try.func119, Try.ntmps119
      go_wp2_with fail
      refine GS.out.mono ?_
      rintro e w' ⟨rfl, rfl⟩
      go_wp2
      go_ret
      exact ⟨by rw [HR.out]; rfl, ⟨a, c, by rw [HR.out]; exact HB.out⟩, mut1⟩
  · have HR : Hid (rNum most S = (0, S)) := hid (by unfold rNum; rw [if_pos he])
    have t4 : ((S.e : Int) != 0) = true := by simp; omega
    clear he
    go_enter Try.func119, Try.ntmps119
    go_wp2
    go_ret
    exact ⟨by rw [HR.out]; rfl, ⟨a, c, by rw [HR.out]; exact h⟩, Mut.refl _ _⟩
theorem rNumR_is {s c most x : Nat} {z : Int} {a : Option Addr} {S S1 : RS} {w : World} (hz : z = (most : Int)) (hx : Hid (rNum most S = (x, S1))) (hR : RdIs w s a c S) :
    Calls Try.prog 119 #[.pointer (some ⟨s, 0, none⟩), .int .u64 z] w fun e w' => e = .returned (.int .u64 x) ∧ (∃ a' c', RdIs w' s a' c' S1) ∧ Mut (fun k => k = s) w w' := by
  subst hz
  have := rNumR_any most hR
  rw [hx.out] at this; exact this
theorem pidGetR_it {a : Option Addr} {c n : Nat} {bs : List Nat} {w : World} {x y : Int} {u e : Nat} (h : Hid (getP bs = ((x, y), u, e))) (hn : Hid (bs.length = n)) (hc : n ≤ c) (hl : n ≤ 70368744177664) (hby : ∀ b ∈ bs, b < 256) (hrow : ByteRow w a bs) :
    Calls Try.prog 203 #[.slice a n c] w fun e' w' => e' = .returned (.tuple #[.agg #[.int .u16 x, .int .u32 y], .int .i64 u, .int .i64 e]) ∧ Below w.heap.size w w' := by
  have := pidGetR_any (w := w) hn hc hl hby hrow
  rw [h.out] at this; exact this
set_option maxRecDepth 100000 in
set_option maxHeartbeats 3200000 in
theorem rPidR_any {s c : Nat} {a : Option Addr} {S S1 : RS} {w : World} {x y : Int} (hX : Hid (rPid S = ((x, y), S1))) (h : RdIs w s a c S) :
    Calls Try.prog 132 #[.pointer (some ⟨s, 0, none⟩)] w fun e w' => e = .returned (.agg #[.int .u16 x, .int .u32 y]) ∧ (∃ a' c', RdIs w' s a' c' S1) ∧ Mut (fun k => k = s) w w' := by
  have hB : Below w.heap.size w (w.alloc (.cells #[.int .u16 0, .int .u32 0] 26)) := (Below.refl _ _).alloc (Nat.le_refl _) _
  have h1 := h.ext hB
  have g2 := BoxP.made w 26 (.int .u16 0) (.int .u32 0)
  have hs := h.lt
  have c0 := h1.c0
  have c1 := h1.c1
  have f0 := h1.f0
  have f1 := h1.f1
  obtain ⟨n, hn⟩ : ∃ n, S.b.length = n := ⟨_, rfl⟩
  have hlen := h1.len
  have hcap := h1.cap
  rw [hn] at c0 hlen hcap
  have HN := hid hn
  have HBY := hid h1.byt
  have hrow := h1.row
  have HB := hid hB
  have H1 := hid h1
  have HG2 := hid g2
  by_cases he : S.e = 0
  · rw [he] at c1
    obtain ⟨⟨⟨gx, gy⟩, u, e⟩, hG⟩ : ∃ q, getP S.b = q := ⟨_, rfl⟩
    have hok := getP_ok (bs := S.b)
    rw [hG] at hok
    simp only at hok
    have HG := hid hG
    have HE := hid he
    have GS := hid (pidGetR_it (c := c) HG HN hcap hlen HBY.out hrow)
    clear hG he hn g2
    by_cases he2 : e = 0
    · subst he2
      have hu : u ≤ n := by have := (hok rfl).1; rw [HN.out] at this; exact this
      have HR : Hid (((gx, gy), (⟨S.b.drop u, 0⟩ : RS)) = ((x, y), S1)) := hid (by rw [← hX.out]; unfold rPid; simp only [HG.out]; rw [if_neg (by simp [HE.out]), if_neg (by simp)])
      obtain ⟨e1, e2⟩ := Prod.mk.inj HR.out
      obtain ⟨e3, e4⟩ := Prod.mk.inj e1
      subst e3; subst e4; subst e2
      obtain ⟨A1, hA1⟩ : ∃ A, (if c = u then a else a.map (·.add (u * 1))) = A := ⟨_, rfl⟩
      have hrun := fun W => run_fromB (a := a) (c := c) hu W
      simp only [hA1] at hrun
      obtain ⟨n2, hn2⟩ : ∃ n2, n - u = n2 := ⟨_, rfl⟩
      obtain ⟨c2, hc2⟩ : ∃ c2, c - u = c2 := ⟨_, rfl⟩
      simp only [hn2, hc2] at hrun
      have hdl : (S.b.drop u).length = n2 := by rw [List.length_drop, HN.out, hn2]
      have HD := hid hdl
      have HA1 := hid hA1
      have HN2 := hid (And.intro hn2 hc2)
      clear hok hA1 hn2 hc2 hdl e1
      go_enter Try.func132, Try.ntmps132
      go_wp2_with fail
      refine GS.out.mono ?_
      rintro e w4 ⟨rfl, hb4⟩
      have hq : Below w4.heap.size w4 (w4.alloc (.cells #[.int .u16 gx, .int .u32 gy] 26)) := (Below.refl _ _).alloc (Nat.le_refl _) _
      have h4 := (H1.out.ext hb4).ext hq
      have g4 := (HG2.out.ext hb4).ext hq
      have r0 := h4.c0
      have r1 := h4.c1
      rw [HN.out] at r0
      rw [HE.out] at r1
      have rf := h4.f0
      obtain ⟨z0, z1, z2, z3⟩ := id g4
      have hr2 := h4.row.cut (k := u) (c := c) (by rw [HN.out]; exact hcap)
      have hf2 := h4.row.cutA (k := u) (c := c) h4.far
      rw [HA1.out] at hr2 hf2
      have hn2 := HN2.out
      have hP : RdIs ((w4.alloc (.cells #[.int .u16 gx, .int .u32 gy] 26)).setCell ⟨s, 0, none⟩ (.slice A1 n2 c2)) s A1 c2 ⟨S.b.drop u, S.e⟩ := h4.put HD.out.symm hr2 hf2 (by rw [HD.out]; omega) (fun b hb => HBY.out b (List.mem_of_mem_drop hb)) (by rw [HD.out]; omega)
      rw [HE.out] at hP
      have hgs : s < w.heap.size := hs
      have g5 := g4.mutT (mut1 (s := s) (i := 0) (v := .slice A1 n2 c2)) (fun e => by have e : w.heap.size = s := e; omega)
      have HP := hid hP
      have HG5 := hid g5
      have hsw : w.heap.size + 1 ≤ w4.heap.size := by have := hb4.size; simp at this; exact this
      have hbp := BoxP.made w4 26 (.int .u16 gx) (.int .u32 gy)
      have hbp5 := hbp.mutT (mut1 (s := s) (i := 0) (v := .slice A1 n2 c2)) (fun e => by have e : w4.heap.size = s := e; omega)
      have HM : Hid (Mut (fun k => k = s ∨ k = w.heap.size) w ((w4.alloc (.cells #[.int .u16 gx, .int .u32 gy] 26)).setCell ⟨s, 0, none⟩ (.slice A1 n2 c2))) := hid (((Mut.of_below (HB.out.trans (hb4.mono HB.out.size))).trans (Mut.of_below hq)).trans (mut1.mono (fun k _ e => .inl e)))
      obtain ⟨y0, y1, y2, y3⟩ := g5
      obtain ⟨v0, v1, -, -⟩ := hbp5
      have HGS : Hid (s ≠ w.heap.size ∧ s < w.heap.size) := hid ⟨by omega, hs⟩
      clear h4 g4 hP hbp hq hb4 hr2 hf2
      go_wp2
      obtain ⟨p0, p1, p2, p3⟩ := HG5.out.put (.int .u16 gx) (.int .u32 gy)
      have p4 := World.cell?_setCell_same _ _ (.int .u16 gx) y0
      exact bodyPost_ret (v := .agg #[.int .u16 gx, .int .u32 gy]) (by simp [results, Try.results132, go_sem, p0, p1]) rfl ⟨rfl, ⟨A1, c2, HP.out.mutT (G := fun k => k = w.heap.size) mut2 (fun k e => by rw [e]; exact HGS.out.2)⟩, (HM.out.trans ((mut2 (s := w.heap.size) (x := .int .u16 gx) (y := .int .u32 gy)).mono (fun k _ e => .inr e))).mono (fun k hk e => e.elim id (fun h => absurd h (by omega)))⟩
    · have HR : Hid (((0, 0), (⟨S.b, e⟩ : RS)) = ((x, y), S1)) := hid (by rw [← hX.out]; unfold rPid; simp only [HG.out]; rw [if_neg (by simp [HE.out]), if_pos he2])
      obtain ⟨e1, e2⟩ := Prod.mk.inj HR.out
      obtain ⟨e3, e4⟩ := Prod.mk.inj e1
      subst e3; subst e4; subst e2
      have t4 : ((e : Int) != 0) = true := by simp; omega
      clear hok he2 e1
      go_enter Try.func132, Try.ntmps132
      go_wp2_with fail
      refine GS.out.mono ?_
      rintro e' w4 ⟨rfl, hb4⟩
      have hq : Below w4.heap.size w4 (w4.alloc (.cells #[.int .u16 gx, .int .u32 gy] 26)) := (Below.refl _ _).alloc (Nat.le_refl _) _
      have h4 := (H1.out.ext hb4).ext hq
      have g4 := (HG2.out.ext hb4).ext hq
      have r1 := h4.c1
      rw [HE.out] at r1
      have rf := h4.f1
      have HBD := hid (h4.bad e)
      have g5 := g4.mutT (mut1 (s := s) (i := 1) (v := .int .i64 e)) (fun e => by have e : w.heap.size = s := e; omega)
      have HG5 := hid g5
      obtain ⟨z0, z1, z2, z3⟩ := id g4
      obtain ⟨y0, y1, y2, y3⟩ := g5
      have HM : Hid (Mut (fun k => k = s ∨ k = w.heap.size) w ((w4.alloc (.cells #[.int .u16 gx, .int .u32 gy] 26)).setCell ⟨s, 1, none⟩ (.int .i64 e))) := hid (((Mut.of_below (HB.out.trans (hb4.mono HB.out.size))).trans (Mut.of_below hq)).trans (mut1.mono (fun k _ e => .inl e)))
      have HGS : Hid (s < w.heap.size) := hid hs
      clear h4 g4 hq hb4
      go_wp2
      obtain ⟨p0, p1, p2, p3⟩ := HG5.out.put (.int .u16 0) (.int .u32 0)
      have p4 := World.cell?_setCell_same _ _ (.int .u16 0) y0
      exact bodyPost_ret (v := .agg #[.int .u16 0, .int .u32 0]) (by simp [results, Try.results132, go_sem, p0, p1]) rfl ⟨rfl, ⟨a, c, HBD.out.mutT (G := fun k => k = w.heap.size) mut2 (fun k e => by rw [e]; exact HGS.out)⟩, (HM.out.trans ((mut2 (s := w.heap.size) (x := .int .u16 0) (y := .int .u32 0)).mono (fun k _ e => .inr e))).mono (fun k hk e => e.elim id (fun h => absurd h (by omega)))⟩
  · have HR : Hid (((0, 0), S) = ((x, y), S1)) := hid (by rw [← hX.out, rPid_skip he])
    obtain ⟨e1, e2⟩ := Prod.mk.inj HR.out
    obtain ⟨e3, e4⟩ := Prod.mk.inj e1
    subst e3; subst e4; subst e2
    have t4 : ((S.e : Int) != 0) = true := by simp; omega
    obtain ⟨z0, z1, z2, z3⟩ := id g2
    clear he e1
    go_enter Try.func132, Try.ntmps132
    go_wp2
    exact bodyPost_ret (v := .agg #[.int .u16 0, .int .u32 0]) (by simp [results, Try.results132, go_sem]) rfl ⟨rfl, ⟨a, c, H1.out⟩, Mut.of_below HB.out⟩
end Go.Proofs.Ytbpfhclcjedkcaa

namespace Go.Proofs.Ytbpfhclcjedkcaa
open Go.RowKit

/-! ### lists of lists, each in a block of the call's own; boxes of four cells -/
theorem infoPs : (Try.prog.info? 30).map (fun i => (i.zero, i.size, i.bytes)) = some (some (.slice none 0 0), 1, 24) := by kernel_rfl
theorem OwnP.grownN {w w' : World} {base : Nat} {v : Value} {xs : List Pid} {row : Option Nat} (h : OwnP w base v xs) (hg : w.grownBy w' row) (hne : ∀ g, v.ownBlock = some g → row ≠ some g) : OwnP w' base v xs := by
  refine ⟨h.1, ?_⟩
  rcases h.2 with hn | ⟨g, cap, cur, rfl, hbb, hgg, rest⟩
  · exact .inl hn
  · exact .inr ⟨g, cap, cur, rfl, hbb, (hg.block g (Array.getElem?_eq_some_iff.1 hgg).1 (fun e => hne g rfl e.symm)).trans hgg, rest⟩
theorem OwnP.mutN {G : Nat → Prop} {w w' : World} {base : Nat} {v : Value} {xs : List Pid} (h : OwnP w base v xs) (hm : Mut G w w') (hG : ∀ g, v.ownBlock = some g → ¬ G g) : OwnP w' base v xs := by
  refine ⟨h.1, ?_⟩
  rcases h.2 with hn | ⟨g, cap, cur, rfl, hbb, hgg, rest⟩
  · exact .inl hn
  · exact .inr ⟨g, cap, cur, rfl, hbb, (hm.block g (Array.getElem?_eq_some_iff.1 hgg).1 (hG g rfl)).trans hgg, rest⟩
theorem OwnP.blk {w : World} {base : Nat} {v : Value} {xs : List Pid} (h : OwnP w base v xs) {g : Nat} (hg : v.ownBlock = some g) : base ≤ g ∧ g < w.heap.size := World.ownsRow.lt h g hg
def OwnLL (w : World) (base : Nat) (v : Value) (Ls : List (List Pid)) : Prop :=
  ∃ cells : List Value, w.ownsRow base 30 1 v Ls.length cells ∧ ∀ i (h : i < Ls.length), ∃ vi, cells[i]? = some vi ∧ OwnP w base vi Ls[i] ∧ ∀ g, vi.ownBlock = some g → v.ownBlock ≠ some g
theorem OwnLL.nil (w : World) (base : Nat) : OwnLL w base (.slice none 0 0) [] := ⟨[], World.ownsRow_nil _ _ _ _, fun i h => by simp at h⟩
theorem OwnLL.ext {w w' : World} {base : Nat} {v : Value} {Ls : List (List Pid)} (h : OwnLL w base v Ls) (hb : Below w.heap.size w w') : OwnLL w' base v Ls := by
  obtain ⟨cells, ho, he⟩ := h
  refine ⟨cells, ⟨ho.1, ?_⟩, fun i hi => ?_⟩
  · rcases ho.2 with hn | ⟨g, cap, cur, rfl, hbb, hgg, rest⟩
    · exact .inl hn
    · exact .inr ⟨g, cap, cur, rfl, hbb, (hb.block g (Array.getElem?_eq_some_iff.1 hgg).1).trans hgg, rest⟩
  · obtain ⟨vi, h1, h2, h3⟩ := he i hi
    exact ⟨vi, h1, h2.ext hb, h3⟩
theorem OwnLL.mutT {G : Nat → Prop} {w w' : World} {base : Nat} {v : Value} {Ls : List (List Pid)} (h : OwnLL w base v Ls) (hm : Mut G w w') (hG : ∀ k, G k → k < base) : OwnLL w' base v Ls := by
  obtain ⟨cells, ho, he⟩ := h
  refine ⟨cells, ⟨ho.1, ?_⟩, fun i hi => ?_⟩
  · rcases ho.2 with hn | ⟨g, cap, cur, rfl, hbb, hgg, rest⟩
    · exact .inl hn
    · exact .inr ⟨g, cap, cur, rfl, hbb, (hm.block g (Array.getElem?_eq_some_iff.1 hgg).1 (fun hg => by have := hG g hg; omega)).trans hgg, rest⟩
  · obtain ⟨vi, h1, h2, h3⟩ := he i hi
    exact ⟨vi, h1, h2.mutT hm hG, h3⟩
theorem OwnLL.mono {w : World} {b b' : Nat} {v : Value} {Ls : List (List Pid)} (h : OwnLL w b v Ls) (hb : b' ≤ b) : OwnLL w b' v Ls := by
  obtain ⟨cells, ho, he⟩ := h
  refine ⟨cells, ⟨ho.1, ?_⟩, fun i hi => ?_⟩
  · rcases ho.2 with hn | ⟨g, cap, cur, rfl, hbb, rest⟩
    · exact .inl hn
    · exact .inr ⟨g, cap, cur, rfl, by omega, rest⟩
  · obtain ⟨vi, h1, h2, h3⟩ := he i hi
    exact ⟨vi, h1, h2.mono2 hb, h3⟩
theorem OwnLL.row {w : World} {base : Nat} {v : Value} {Ls : List (List Pid)} (h : OwnLL w base v Ls) : ∃ a c, v = .slice a Ls.length c ∧ LeafRow w a Ls := by
  obtain ⟨cells, ho, he⟩ := h
  have hcells := fun g => World.ownsRow.cells (g := g) ho
  rcases ho.2 with ⟨rfl, hn⟩ | ⟨g, cap, cur, rfl, hb, hg, hnc, hcm, hcs, htake⟩
  · exact ⟨none, 0, by rw [hn], .inl (List.length_eq_zero_iff.1 hn)⟩
  · refine ⟨_, cap, rfl, .inr ⟨g, 0, rfl, (Array.getElem?_eq_some_iff.1 hg).1, fun i hi => ?_⟩⟩
    obtain ⟨vi, h1, h2, _⟩ := he i hi
    have := hcells g rfl i _ h1
    rw [addr_add] at this
    obtain ⟨ai, ci, e, hr, _⟩ := h2.row
    exact ⟨ai, ci, by rw [this, e], hr⟩
theorem OwnLL.blk {w : World} {base : Nat} {v : Value} {Ls : List (List Pid)} (h : OwnLL w base v Ls) {g : Nat} (hg : v.ownBlock = some g) : base ≤ g ∧ g < w.heap.size := by
  obtain ⟨cells, ho, _⟩ := h
  exact World.ownsRow.lt ho g hg
theorem grownLL_mut {w w' : World} {base : Nat} {v : Value} {Ls : List (List Pid)} (hg : w.grownBy w' v.ownBlock) (hown : OwnLL w base v Ls) : Mut (fun k => base ≤ k) w w' :=
  ⟨hg.os, hg.tape, hg.output, hg.size, fun k hk hf => hg.block k hk (fun e => hf (hown.blk e.symm).1)⟩
theorem run_appendLL {w : World} {base : Nat} {v vi : Value} {Ls : List (List Pid)} {l : List Pid} {b c : Nat} (hown : OwnLL w base v Ls) (h0 : w.cell? ⟨b, 0, none⟩ = some vi) (hvi : OwnP w base vi l) (hne : ∀ g, vi.ownBlock = some g → v.ownBlock ≠ some g)
    (hlen : Ls.length + 1 ≤ 1099511627776) (hbase : base ≤ w.heap.size) (ty : TypeId) :
    ∃ v' w', (Builtin.append_ #[31, 31] ty #[v, .slice (some ⟨b, 0, none⟩) 1 c]).run Try.prog w = .ok v' w' ∧ OwnLL w' base v' (Ls ++ [l]) ∧ w.grownBy w' v.ownBlock := by
  obtain ⟨i0, hi, hz0, hz1, hz2⟩ := info_parts infoPs
  obtain ⟨cells, hoc, he⟩ := hown
  obtain ⟨ai, ci, e0, -, -⟩ := hvi.row
  obtain ⟨v', w', hrun, h2, h3, h4, h5⟩ := run_append_own_at (P := Try.prog) w base 31 ty 30 i0 _ 1 24 Try.underlying31 hi hz0 hz1 hz2 rfl (by decide) v Ls.length cells hoc ⟨b, 0, none⟩ 1 c [vi] rfl (fun j u hu => by
    have hj : j = 0 := by have := (List.getElem?_eq_some_iff.1 hu).1; simpa using this
    subst hj
    rw [addr_add]
    simp at hu; subst hu
    exact h0) (fun u hu => by simp at hu; subst hu; rw [e0]; rfl) (by unfold maxLen; omega) (by omega) hbase
  have hcl : cells.length = Ls.length := by simpa using hoc.1
  have far : ∀ (u : Value) (m : List Pid), OwnP w base u m → (∀ g, u.ownBlock = some g → v.ownBlock ≠ some g) → ∀ g, u.ownBlock = some g → v'.ownBlock ≠ some g := by
    intro u m hm hno g hg
    rcases h5 with h5 | h5
    · rw [h5]; exact hno g hg
    · rw [h5]
      have := (hm.blk hg).2
      intro e2; simp at e2; omega
  refine ⟨v', w', hrun, ⟨cells ++ [vi], ?_, fun i hi => ?_⟩, h3⟩
  · rw [List.length_append]; exact h2
  · by_cases hlt : i < Ls.length
    · obtain ⟨u, g1, g2, g3⟩ := he i hlt
      rw [List.getElem?_append_left (by omega), List.getElem_append_left hlt]
      exact ⟨u, g1, g2.grownN h3 g3, far u _ g2 g3⟩
    · have hi' : i = Ls.length := by simp at hi; omega
      subst hi'
      rw [List.getElem?_append_right (by omega), List.getElem_append_right (by omega)]
      simp only [hcl, Nat.sub_self, List.getElem?_cons_zero, List.getElem_cons_zero]
      exact ⟨vi, rfl, hvi.grownN h3 hne, far vi l hvi hne⟩
/-- append of a row at an operation of a region that draws -/
theorem step_appendLL {w : World} {o : Oper} {a : Go.Act} {K : Go.Act → World → Prop} {Q : Exit → Go.Act → World → Prop} {y : Nat → Option Bool} {s x : Operand} {base : Nat} {v vi : Value} {Ls : List (List Pid)} {l : List Pid} {b c : Nat} (hw : Region.wanted o y = true) (hown : OwnLL w base v Ls) (h0 : w.cell? ⟨b, 0, none⟩ = some vi) (hvi : OwnP w base vi l)
    (hne : ∀ g, vi.ownBlock = some g → v.ownBlock ≠ some g) (hlen : Ls.length + 1 ≤ 1099511627776) (hbase : base ≤ w.heap.size)
    (ho : o.op = .call { callee := .builtin .append, args := #[s, x], argTypes := #[31, 31] }) (hs : a.eval s = v) (hx : a.eval x = .slice (some ⟨b, 0, none⟩) 1 c)
    (h : ∀ v' w', OwnLL w' base v' (Ls ++ [l]) → w.grownBy w' v.ownBlock → K (a.put o.dst v') w') : if Region.wanted o y = true then Oper.wp Try.prog o a w K Q else K (a.put o.dst undef) w := by
  rw [if_pos hw]
  obtain ⟨v', w', hr, h2, h3⟩ := run_appendLL hown h0 hvi hne hlen hbase (c := c) o.type
  exact Lib.wp_append_run w s x 31 31 ho _ _ hs hx v' w' hr (h v' w' h2 h3)
theorem off2t {w : World} {b q j : Nat} {x : Value} (hc : j ≠ q) : (w.setCell ⟨b, q, none⟩ x).cell? ⟨b, j, none⟩ = w.cell? ⟨b, j, none⟩ :=
  World.cell?_setCell_other _ _ _ _ (by intro e; injection e with e1 e2; exact hc e2.symm)
/-- a block of four cells that may be written -/
structure BoxV (w : World) (b : Nat) (v0 v1 v2 v3 : Value) : Prop where
  c0 : w.cell? ⟨b, 0, none⟩ = some v0
  c1 : w.cell? ⟨b, 1, none⟩ = some v1
  c2 : w.cell? ⟨b, 2, none⟩ = some v2
  c3 : w.cell? ⟨b, 3, none⟩ = some v3
  f0 : w.frozen? ⟨b, 0, none⟩ = false
  f1 : w.frozen? ⟨b, 1, none⟩ = false
  f2 : w.frozen? ⟨b, 2, none⟩ = false
  f3 : w.frozen? ⟨b, 3, none⟩ = false
section
variable {w w' : World} {b : Nat} {v0 v1 v2 v3 : Value}
theorem BoxV.lt (h : BoxV w b v0 v1 v2 v3) : b < w.heap.size := World.block_lt_of_cell? w _ h.c0
theorem BoxV.ext (h : BoxV w b v0 v1 v2 v3) (hb : Below w.heap.size w w') : BoxV w' b v0 v1 v2 v3 :=
  ⟨cell_toB h.c0 hb, cell_toB h.c1 hb, cell_toB h.c2 hb, cell_toB h.c3 hb, (hb.frozen (by exact h.lt)).trans h.f0, (hb.frozen (by exact h.lt)).trans h.f1, (hb.frozen (by exact h.lt)).trans h.f2, (hb.frozen (by exact h.lt)).trans h.f3⟩
theorem BoxV.made (w : World) (t : TypeId) (v0 v1 v2 v3 : Value) : BoxV (w.alloc (.cells #[v0, v1, v2, v3] t)) w.heap.size v0 v1 v2 v3 := ⟨by simp, by simp, by simp, by simp, by simp, by simp, by simp, by simp⟩
theorem BoxV.mutT {G : Nat → Prop} (h : BoxV w b v0 v1 v2 v3) (hm : Mut G w w') (hG : ¬ G b) : BoxV w' b v0 v1 v2 v3 := by
  have g : ∀ j, w'.frozen? ⟨b, j, none⟩ = w.frozen? ⟨b, j, none⟩ := fun j => World.frozen?_of_block (w := w) (a := ⟨b, j, none⟩) (hm.block b h.lt hG)
  exact ⟨cell_mut h.c0 hm hG, cell_mut h.c1 hm hG, cell_mut h.c2 hm hG, cell_mut h.c3 hm hG, (g 0).trans h.f0, (g 1).trans h.f1, (g 2).trans h.f2, (g 3).trans h.f3⟩
theorem BoxV.set2 (h : BoxV w b v0 v1 v2 v3) (u : Value) : BoxV (w.setCell ⟨b, 2, none⟩ u) b v0 v1 u v3 :=
  ⟨by rw [off2t (by omega)]; exact h.c0, by rw [off2t (by omega)]; exact h.c1, World.cell?_setCell_same _ _ _ h.c2, by rw [off2t (by omega)]; exact h.c3, by simp [h.f0], by simp [h.f1], by simp [h.f2], by simp [h.f3]⟩
theorem BoxV.set3 (h : BoxV w b v0 v1 v2 v3) (u : Value) : BoxV (w.setCell ⟨b, 3, none⟩ u) b v0 v1 v2 u :=
  ⟨by rw [off2t (by omega)]; exact h.c0, by rw [off2t (by omega)]; exact h.c1, by rw [off2t (by omega)]; exact h.c2, World.cell?_setCell_same _ _ _ h.c3, by simp [h.f0], by simp [h.f1], by simp [h.f2], by simp [h.f3]⟩
theorem BoxV.put (h : BoxV w b v0 v1 v2 v3) (u0 u1 u2 u3 : Value) : BoxV ((((w.setCell ⟨b, 0, none⟩ u0).setCell ⟨b, 1, none⟩ u1).setCell ⟨b, 2, none⟩ u2).setCell ⟨b, 3, none⟩ u3) b u0 u1 u2 u3 := by
  obtain ⟨c0, c1, c2, c3, f0, f1, f2, f3⟩ := h
  refine ⟨?_, ?_, ?_, ?_, by simp [f0], by simp [f1], by simp [f2], by simp [f3]⟩
  · rw [off2t (by omega), off2t (by omega), off2t (by omega)]; exact World.cell?_setCell_same _ _ _ c0
  · rw [off2t (by omega), off2t (by omega)]; exact World.cell?_setCell_same _ _ _ (by rw [off2t (by omega)]; exact c1)
  · rw [off2t (by omega)]; exact World.cell?_setCell_same _ _ _ (by rw [off2t (by omega), off2t (by omega)]; exact c2)
  · exact World.cell?_setCell_same _ _ _ (by rw [off2t (by omega), off2t (by omega), off2t (by omega)]; exact c3)
theorem mutV (w : World) (b : Nat) (u0 u1 u2 u3 : Value) : Mut (fun k => k = b) w ((((w.setCell ⟨b, 0, none⟩ u0).setCell ⟨b, 1, none⟩ u1).setCell ⟨b, 2, none⟩ u2).setCell ⟨b, 3, none⟩ u3) :=
  ((mut1.trans mut1).trans mut1).trans mut1
end
/-! ### lengths of what is read -/
theorem rPidsN_len : ∀ {n : Nat} {S : RS}, (rPidsN n S).1.length ≤ n
  | 0, S => by simp [rPidsN]
  | n + 1, S => by
    unfold rPidsN
    split
    · simp
    · simp only [List.length_cons]; have := rPidsN_len (n := n) (S := (rPid S).2); omega
theorem rPids_len {m : Nat} {S : RS} : (rPids m S).1.length ≤ m := by
  unfold rPids
  split
  · simp
  · split
    · simp
    · have h1 := rPidsN_len (n := (rNum m S).1) (S := (rNum m S).2)
      have h2 := rNum_le (most := m) (S := S)
      omega
theorem rPidsN_ok : ∀ {n : Nat} {S : RS}, ∀ p ∈ (rPidsN n S).1, okP p
  | 0, S => by simp [rPidsN]
  | n + 1, S => by
    unfold rPidsN
    split
    · simp
    · intro p hp
      rcases List.mem_cons.1 hp with rfl | hp
      · exact rPid_ok S
      · exact rPidsN_ok p hp
theorem rPids_ok {m : Nat} {S : RS} : ∀ p ∈ (rPids m S).1, okP p := by
  unfold rPids
  split
  · simp
  · split
    · simp
    · exact rPidsN_ok
theorem rPlacesN_len {ms : List Pid} : ∀ {n : Nat} {S : RS}, (rPlacesN ms n S).1.length ≤ n
  | 0, S => by simp [rPlacesN]
  | n + 1, S => by
    unfold rPlacesN
    split
    · simp
    · split
      · simp
      · simp only [List.length_cons]; have := rPlacesN_len (ms := ms) (n := n) (S := (rNum (ms.length - 1) S).2); omega
theorem rPlaces_len {ms : List Pid} {S : RS} : (rPlaces ms S).1.length ≤ 24 := by
  unfold rPlaces
  have h1 := rPlacesN_len (ms := ms) (n := (rNum 24 S).1) (S := (rNum 24 S).2)
  have h2 := rNum_le (most := 24) (S := S)
  omega
theorem rLeaves_len {ms : List Pid} : ∀ {n : Nat} {S : RS}, (rLeaves ms n S).1.length ≤ n ∧ ∀ l ∈ (rLeaves ms n S).1, l.length ≤ 24
  | 0, S => by simp [rLeaves]
  | n + 1, S => by
    unfold rLeaves
    split
    · simp
    · have := rLeaves_len (ms := ms) (n := n) (S := (rPlaces ms S).2)
      refine ⟨by simp only [List.length_cons]; omega, fun l hl => ?_⟩
      rcases List.mem_cons.1 hl with rfl | hl
      · exact rPlaces_len
      · exact this.2 l hl
theorem rLeaves_stop {ms : List Pid} {n : Nat} {S : RS} (he : S.e ≠ 0) : rLeaves ms n S = ([], S) := by
  cases n with
  | zero => rfl
  | succ n => unfold rLeaves; rw [if_pos he]
theorem rLeaves_step {ms l : List Pid} {n : Nat} {S S2 : RS} (he : S.e = 0) (hp : rPlaces ms S = (l, S2)) : rLeaves ms (n + 1) S = (l :: (rLeaves ms n S2).1, (rLeaves ms n S2).2) := by
  have h2 : rLeaves ms (n + 1) S = if S.e ≠ 0 then ([], S) else ((rPlaces ms S).1 :: (rLeaves ms n (rPlaces ms S).2).1, (rLeaves ms n (rPlaces ms S).2).2) := rfl
  rw [h2, if_neg (by simp [he]), hp]
end Go.Proofs.Ytbpfhclcjedkcaa

namespace Go.Proofs.Ytbpfhclcjedkcaa
open Go.RowKit

/-! ### the reference's Bytes, Pids, places -/
theorem OwnB.made0 (w : World) : OwnB (w.alloc (.cells #[] 5)) w.heap.size (.slice (some ⟨w.heap.size, 0, none⟩) 0 0) [] := World.ownsRow_made (w := w) #[] 0 (Nat.le_refl _) (by unfold maxLen; omega) (by simp)
theorem grownB_mut {w w' : World} {base : Nat} {v : Value} {xs : List Nat} (hg : w.grownBy w' v.ownBlock) (hown : OwnB w base v xs) : Mut (fun k => base ≤ k) w w' :=
  ⟨hg.os, hg.tape, hg.output, hg.size, fun k hk hf => hg.block k hk (fun e => hf (World.ownsRow.lt hown k e.symm).1)⟩
set_option maxRecDepth 100000 in
set_option maxHeartbeats 6400000 in
theorem rBytesR_any {s c : Nat} {a : Option Addr} {S S9 : RS} {L : List Nat} {w : World} {z : Int} (most : Nat) (hz : z = (most : Int)) (hx : Hid (rBytes most S = (L, S9))) (hm : most ≤ 1000) (hR : RdIs w s a c S) :
    Calls Try.prog 137 #[.pointer (some ⟨s, 0, none⟩), .int .i64 z] w fun e w' => (∃ v, e = .returned v ∧ OwnB w' w.heap.size v L) ∧ (∃ a' c', RdIs w' s a' c' S9) ∧ Mut (fun k => k = s) w w' := by
  subst hz
  have c0 := hR.c0
  obtain ⟨n0, hn0⟩ : ∃ n, S.b.length = n := ⟨_, rfl⟩
  rw [hn0] at c0
  have HN0 := hid hn0
  obtain ⟨⟨n, S1⟩, h1⟩ : ∃ q, rNum most S = q := ⟨_, rfl⟩
  have hn : n ≤ 1000 := by have := rNum_le (most := most) (S := S); rw [h1] at this; simp only at this; omega
  have hmax : max ((most : Nat) : Int) 0 = most := by omega
  have ewm : IntKind.u64.wrap ((most : Nat) : Int) = ((most : Nat) : Int) := by rw [IntKind.wrap_u64]; omega
  have CN := hid (rNumR_is rfl (hid h1) hR)
  have H1 := hid h1
  have HR := hid hR
  clear h1 hn0
  go_enter Try.func137, Try.ntmps137
  go_wp2_with fail
  refine CN.out.mono ?_
  rintro e w1 ⟨rfl, ⟨a1, c1, hR1⟩, hM1⟩
  obtain ⟨ln, hln⟩ : ∃ k, S1.b.length = k := ⟨_, rfl⟩
  have r0 := hR1.c0
  have r1 := hR1.c1
  have rf0 := hR1.f0
  have rf1 := hR1.f1
  have hcap := hR1.cap
  have hlen := hR1.len
  rw [hln] at r0 hcap hlen
  have HLN := hid hln
  have ewl : IntKind.u64.wrap ((ln : Nat) : Int) = ((ln : Nat) : Int) := by rw [IntKind.wrap_u64]; omega
  have HM1 := hid hM1
  have HR1 := hid hR1
  clear CN hmax ewm hM1 hln hR1 c0
  by_cases he : S1.e = 0
  · have he0 : S.e = 0 := by
      by_cases h : S.e = 0
      · exact h
      · have := H1.out
        rw [rNum_skip h] at this
        cases this; exact he
    rw [he] at r1
    by_cases hl : ln < n
    · have t1 : decide ((n : Int) > (ln : Int)) = true := by simp <;> omega
      have t2 : decide ((ln : Int) < (n : Int)) = true := by simp <;> omega
      have t3 : decide (ln < n) = true := by simpa using hl
      have HB2 := hid (HR1.out.bad 2)
      have hrow1 : ByteRow w1 a S.b := HR.out.row.mutT HM1.out (fun b off e hne hk => by have := HR.out.far b off e hne; have hk : b = s := hk; omega)
      have hrow2 : ByteRow (w1.setCell ⟨s, 1, none⟩ (.int .i64 2)) a S.b := hrow1.setFar HR.out.far
      have HP := hid ((HR1.out.bad 2).put HN0.out.symm hrow2 HR.out.far HR.out.cap HR.out.byt HR.out.len)
      have HEND : Hid (([], (⟨S.b, 2⟩ : RS)) = (L, S9)) := hid (by
        rw [← hx.out]; unfold rBytes
        rw [if_neg (by simp [he0]), H1.out]; simp only
        rw [if_neg (by simp [he]), if_pos (by rw [HLN.out]; exact hl)])
      obtain ⟨q0, q1⟩ := And.intro HB2.out.c0 HB2.out.f0
      have HW : (w1.setCell ⟨s, 1, none⟩ (.int .i64 ((2 : Nat) : Int))).cell? ⟨s, 1, none⟩ = some (.int .i64 2) := HB2.out.c1
      clear he hl hrow1 hrow2
      go_wp2
      go_ret
      obtain ⟨e1, e2⟩ := Prod.mk.inj HEND.out
      subst e1; subst e2
      exact ⟨⟨_, rfl, OwnB.nil _ _⟩, ⟨a, c, HP.out⟩, HM1.out.trans (mut1.trans mut1)⟩
    · have t1 : decide ((n : Int) > (ln : Int)) = false := by simp <;> omega
      have t2 : decide ((ln : Int) < (n : Int)) = false := by simp <;> omega
      have t3 : decide (ln < n) = false := by simpa using hl
      have HEND : Hid ((S1.b.take n, (⟨S1.b.drop n, 0⟩ : RS)) = (L, S9)) := hid (by
        rw [← hx.out]; unfold rBytes
        rw [if_neg (by simp [he0]), H1.out]; simp only
        rw [if_neg (by simp [he]), if_neg (by rw [HLN.out]; exact hl)])
      have hup := fun W => run_uptoBu (a := a1) (n := ln) (c := c1) (k := n) (by omega) W
      simp only [uptoA, Nat.sub_zero] at hup
      obtain ⟨A1, hA1⟩ : ∃ A, (if c1 = n then a1 else a1.map (·.add (n * 1))) = A := ⟨_, rfl⟩
      have hfr := fun W => run_fromBu (a := a1) (n := ln) (c := c1) (k := n) (by omega) W
      simp only [hA1] at hfr
      obtain ⟨n2, hn2⟩ : ∃ n2, ln - n = n2 := ⟨_, rfl⟩
      obtain ⟨k2, hk2⟩ : ∃ k2, c1 - n = k2 := ⟨_, rfl⟩
      simp only [hn2, hk2] at hfr
      have hq : Below w1.heap.size w1 (w1.alloc (.cells #[] 5)) := (Below.refl _ _).alloc (Nat.le_refl _) _
      have hrt := (HR1.out.row.upto n).ext hq
      have HTL : Hid ((S1.b.take n).length = n) := hid (by rw [List.length_take, HLN.out]; omega)
      have h2 := HR1.out.ext hq
      have r20 := h2.c0
      rw [HLN.out] at r20
      have hown := OwnB.made0 w1
      have HHE := hid he
      have HA1 := hid hA1
      have HN2 := hid (And.intro hn2 hk2)
      have H2 := hid h2
      have hs1 := HR1.out.lt
      clear he hl hA1 hn2 hk2 h2
      go_wp2_with (at_builtin; refine wpList_appendB hown hrt HTL (by simp; omega) (by simp) rfl rfl rfl rfl ?_; intro v4 w4 hown4 hg4 hat4; obtain ⟨q4, k4, e4, -, -⟩ := hown4.row; subst e4; have hgm := grownB_mut hg4 hown; have h4 := H2.out.mutT hgm (fun k e => by have e : w1.heap.size ≤ k := e; omega); have r40 := h4.c0; rw [HLN.out] at r40; have f40 := h4.f0; have HOWN4 := hid hown4; have HGM := hid hgm; have H4 := hid h4; clear hat4 hg4 hown4 hgm h4)
      go_ret
      have h4 := H4.out
      have hr2 := h4.row.cut (k := n) (c := c1) (by rw [HLN.out]; exact hcap)
      have hf2 := h4.row.cutA (k := n) (c := c1) h4.far
      rw [HA1.out] at hr2 hf2
      have hdl : (S1.b.drop n).length = n2 := by rw [List.length_drop, HLN.out, HN2.out.1]
      have hk2 := HN2.out
      have hP : RdIs (w4.setCell ⟨s, 0, none⟩ (.slice A1 n2 k2)) s A1 k2 ⟨S1.b.drop n, S1.e⟩ := h4.put hdl.symm hr2 hf2 (by omega) (fun b hb => HR1.out.byt b (List.mem_of_mem_drop hb)) (by omega)
      rw [HHE.out] at hP
      obtain ⟨e1, e2⟩ := Prod.mk.inj HEND.out
      subst e1; subst e2
      have hM : Mut (fun k => k = s ∨ w1.heap.size ≤ k) w (w4.setCell ⟨s, 0, none⟩ (.slice A1 n2 k2)) :=
        (((HM1.out.mono (fun k _ e => .inl e)).trans (Mut.of_below hq)).trans (HGM.out.mono (fun k _ e => .inr e))).trans (mut1.mono (fun k _ e => .inl e))
      have hws := HM1.out.size
      have ho := (HOWN4.out.mono (b' := w.heap.size) hws).mutT (mut1 (s := s) (i := 0) (v := .slice A1 n2 k2)) (fun k e => by rw [e]; exact HR.out.lt)
      refine ⟨⟨_, rfl, ?_⟩, ⟨A1, k2, hP⟩, hM.mono (fun k hk e => e.elim id (fun h => absurd h (by omega)))⟩
      simpa using ho
  · have t4 : ((S1.e : Int) == 0) = false := by simp; omega
    have t5 : ((S1.e : Int) != 0) = true := by simp; omega
    have hrow1 : ByteRow w1 a S.b := HR.out.row.mutT HM1.out (fun b off e hne hk => by have := HR.out.far b off e hne; have hk : b = s := hk; omega)
    have HP := hid (HR1.out.put HN0.out.symm hrow1 HR.out.far HR.out.cap HR.out.byt HR.out.len)
    have HEND : Hid (([], (⟨S.b, S1.e⟩ : RS)) = (L, S9)) := hid (by
      rw [← hx.out]
      by_cases h0 : S.e = 0
      · unfold rBytes
        rw [if_neg (by simp [h0]), H1.out]; simp only
        rw [if_pos he]
      · have := H1.out
        rw [rNum_skip h0] at this
        cases this
        rw [rBytes_skip h0])
    clear he hrow1
    go_wp2
    go_ret
    obtain ⟨e1, e2⟩ := Prod.mk.inj HEND.out
    subst e1; subst e2
    exact ⟨⟨_, rfl, OwnB.nil _ _⟩, ⟨a, c, HP.out⟩, HM1.out.trans mut1⟩
set_option maxRecDepth 100000 in
set_option maxHeartbeats 3200000 in
theorem rPidsR_any {s c : Nat} {a : Option Addr} {S S9 : RS} {L9 : List Pid} {w : World} {z : Int} (most : Nat) (hz : z = (most : Int)) (hx : Hid (rPids most S = (L9, S9))) (hm : most ≤ 1000) (hR : RdIs w s a c S) :
    Calls Try.prog 120 #[.pointer (some ⟨s, 0, none⟩), .int .i64 z] w fun e w' => (∃ v, e = .returned v ∧ OwnP w' w.heap.size v L9) ∧ (∃ a' c', RdIs w' s a' c' S9) ∧ Mut (fun k => k = s) w w' := by
  subst hz
  have c0 := hR.c0
  obtain ⟨n0, hn0⟩ : ∃ n, S.b.length = n := ⟨_, rfl⟩
  rw [hn0] at c0
  have HN0 := hid hn0
  obtain ⟨⟨n, S1⟩, h1⟩ : ∃ q, rNum most S = q := ⟨_, rfl⟩
  obtain ⟨⟨L, S2⟩, h2⟩ : ∃ q, rPidsN n S1 = q := ⟨_, rfl⟩
  have hn : n ≤ 1000 := by have := rNum_le (most := most) (S := S); rw [h1] at this; simp only at this; omega
  have hmax : max ((most : Nat) : Int) 0 = most := by omega
  have ewm : IntKind.u64.wrap ((most : Nat) : Int) = ((most : Nat) : Int) := by rw [IntKind.wrap_u64]; omega
  have CN := hid (rNumR_is rfl (hid h1) hR)
  have HEND : Hid (((if S2.e = 0 then L else []), (if S2.e = 0 then S2 else ⟨S.b, S2.e⟩)) = (L9, S9)) := hid (by
    rw [← hx.out]
    by_cases h0 : S.e = 0
    · rw [rPids_eq h0 h1 h2]; rfl
    · rw [rNum_skip h0] at h1
      cases h1
      rw [rPidsN_stop h0] at h2
      cases h2
      rw [rPids_skip h0, if_neg h0, if_neg h0])
  have H2 := hid h2
  have HR := hid hR
  have hsw := hR.lt
  clear h1 h2 hn0
  go_enter Try.func120, Try.ntmps120
  go_wp2_with fail
  refine CN.out.mono ?_
  rintro e w1 ⟨rfl, hR1, hM1⟩
  clear CN hmax ewm c0
  go_wp2_with fail
  go_loopw [7, 8] (fun v i wr => ∃ (k : Nat) (got : List Pid) (T : RS), k ≤ n ∧ i = .int .u64 k ∧ got.length = k ∧ (∃ a' c', RdIs wr s a' c' T) ∧ OwnP wr w.heap.size v got ∧ Hid (L = got ++ (rPidsN (n - k) T).1 ∧ S2 = (rPidsN (n - k) T).2) ∧ Mut (fun k => k = s) w wr) (fun _ i _ => n - (intOf i).toNat)
  case atStart =>
    exact ⟨0, [], S1, Nat.zero_le _, rfl, rfl, hR1, OwnP.nil _ _, hid (by rw [Nat.sub_zero, H2.out]; simp), hM1⟩
  case round =>
    obtain ⟨k, got, T, hk, rfl, hgl, ⟨a2, c2, hRT⟩, hown, hM, hmut⟩ := hrel
    have HRT := hid hRT
    have HOWN := hid hown
    have HMU := hid hmut
    have HGL := hid hgl
    have r0 := hRT.c0
    have r1 := hRT.c1
    have rf0 := hRT.f0
    by_cases he : T.e = 0
    · rw [he] at r1
      by_cases hlt : k < n
      · have t1 : decide ((k : Int) < (n : Int)) = true := by simpa using hlt
        have t1' : decide (k < n) = true := by simpa using hlt
        obtain ⟨⟨⟨x, y⟩, T2⟩, hq⟩ : ∃ p, rPid T = p := ⟨_, rfl⟩
        have CP := hid (rPidR_any (hid hq) hRT)
        have HM2 : Hid (L = (got ++ [(x, y)]) ++ (rPidsN (n - (k + 1)) T2).1 ∧ S2 = (rPidsN (n - (k + 1)) T2).2) := hid (by
          have := hM.out
          rw [show n - k = (n - (k + 1)) + 1 by omega, rPidsN_step he hq] at this
          exact ⟨by rw [this.1]; simp, this.2⟩)
        have HLT := hid hlt
        clear hRT hown hmut hgl he hM hq hlt
        go_wp2_with fail
        refine CP.out.mono ?_
        rintro e w3 ⟨rfl, ⟨a3, c3, hR3⟩, hM3⟩
        have hq4 : Below w3.heap.size w3 (w3.alloc (.cells #[.int .u16 x, .int .u32 y] 26)) := (Below.refl _ _).alloc (Nat.le_refl _) _
        have ho4 := ((HOWN.out.mutT hM3 (fun k e => by rw [e]; exact hsw))).ext hq4
        have HM4 := hid ((HMU.out.trans hM3).trans (Mut.of_below hq4))
        have HR4 := hid (hR3.ext hq4)
        clear CP hR3 hM3 hq4 r0 r1 rf0
        go_wp2_with (at_builtin; refine wpList_appendP ho4 (PidRow.one w3 x y) (by have := HGL.out; have := HLT.out; simp; omega) HM4.out.size rfl rfl rfl rfl ?_; intro v5 w5 hown5 hg5 hiff5; clear hiff5)
        go_roundw
        case rel =>
          have hgm := grown_mut hg5 ho4
          refine ⟨k + 1, got ++ [(x, y)], T2, by have := HLT.out; omega, by have := HLT.out; go_num, by rw [List.length_append, HGL.out]; rfl, ⟨a3, c3, HR4.out.mutT hgm (fun k e => by have e : w.heap.size ≤ k := e; omega)⟩, hown5, HM2, ?_⟩
          exact mut_grown HM4.out hg5 ho4 (Nat.le_refl _)
        case measure => have := HLT.out; simp [intOf]; omega
      · have t1 : decide ((k : Int) < (n : Int)) = false := by simpa using hlt
        have t1' : decide (k < n) = false := by simpa using hlt
        have HE : Hid (L = got ∧ S2 = T) := hid (by
          have := hM.out
          rw [show n - k = 0 by omega] at this
          simpa [rPidsN] using this)
        have HTE := hid he
        clear hRT hown hmut hgl hlt hM he
        go_wp2
        go_ret
        have hh := HEND.out
        rw [HE.out.2, HE.out.1, if_pos HTE.out, if_pos HTE.out] at hh
        obtain ⟨e1, e2⟩ := Prod.mk.inj hh
        subst e1; subst e2
        exact ⟨⟨_, rfl, HOWN.out⟩, ⟨a2, c2, HRT.out⟩, HMU.out⟩
    · have t2 : ((T.e : Int) == 0) = false := by simp; omega
      have t3 : ((T.e : Int) != 0) = true := by simp; omega
      have HE : Hid (L = got ∧ S2 = T) := hid (by
        have := hM.out
        rw [rPidsN_stop he] at this
        simpa using this)
      have HTE : Hid (¬ T.e = 0) := hid he
      have hrow1 : ByteRow wr a S.b := HR.out.row.mutT hmut (fun b off e hne hk => by have := HR.out.far b off e hne; have hk : b = s := hk; omega)
      have HP := hid (HRT.out.put HN0.out.symm hrow1 HR.out.far HR.out.cap HR.out.byt HR.out.len)
      by_cases hlt : k < n
      · have t1 : decide ((k : Int) < (n : Int)) = true := by simpa using hlt
        have t1' : decide (k < n) = true := by simpa using hlt
        clear hRT hown hmut hgl hlt hM he hrow1
        go_wp2
        go_ret
        have hh := HEND.out
        rw [HE.out.2, if_neg HTE.out, if_neg HTE.out] at hh
        obtain ⟨e1, e2⟩ := Prod.mk.inj hh
        subst e1; subst e2
        exact ⟨⟨_, rfl, OwnP.nil _ _⟩, ⟨a, c, HP.out⟩, HMU.out.trans mut1⟩
      · have t1 : decide ((k : Int) < (n : Int)) = false := by simpa using hlt
        have t1' : decide (k < n) = false := by simpa using hlt
        clear hRT hown hmut hgl hlt hM he hrow1
        go_wp2
        go_ret
        have hh := HEND.out
        rw [HE.out.2, if_neg HTE.out, if_neg HTE.out] at hh
        obtain ⟨e1, e2⟩ := Prod.mk.inj hh
        subst e1; subst e2
        exact ⟨⟨_, rfl, OwnP.nil _ _⟩, ⟨a, c, HP.out⟩, HMU.out.trans mut1⟩
end Go.Proofs.Ytbpfhclcjedkcaa


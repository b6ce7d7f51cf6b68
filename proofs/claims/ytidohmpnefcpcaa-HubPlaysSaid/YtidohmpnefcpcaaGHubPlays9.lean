/- Parts of the proof: KX. -/
import Derived.Test.YtidohmpnefcpcaaKW
namespace Go.Proofs.Ytidohmpnefcpcaa
open Go.RowKit
/-! ### the reference's link: find -/
structure RLnk where
  upto : Nat
  held : List (Nat × List Nat)
  owes : Bool
set_option maxRecDepth 100000 in
structure RLnkIs (w : World) (N : Nat → Prop) (l : Nat) (hv : Value) (d : RLnk) : Prop where
  box : Bx3 w l (.int .u64 d.upto) hv (.bool d.owes)
  it : ∃ xs, RowP w 0 2 hv xs ∧ ElsAt w N xs (d.held.map itemC)
  nl : N l
  nh : ∀ g, hv.ownBlock = some g → N g ∧ g ≠ l
  bu : d.upto < 18446744073709551616
  bq : ∀ p ∈ d.held, p.1 < 18446744073709551616
  bl : d.held.length ≤ 999990
def fpK (l : Nat) (hv : Value) (b : Nat) : Prop := b = l ∨ hv.ownBlock = some b
section
variable {w w' w4 : World} {N N' : Nat → Prop} {l : Nat} {hv hv' : Value} {d : RLnk}
theorem RLnkIs.fp (h : RLnkIs w N l hv d) : ∀ b, fpK l hv b → N b := fun b e => by
  rcases e with e | e
  · rw [e]; exact h.nl
  · exact (h.nh b e).1
theorem RLnkIs.fplt (h : RLnkIs w N l hv d) : ∀ b, fpK l hv b → b < w.heap.size := fun b e => by
  rcases e with e | e
  · rw [e]; exact h.box.lt
  · obtain ⟨xs, hx, -⟩ := h.it; exact (hx.blk e).2
theorem RLnkIs.mut {G : Nat → Prop} (h : RLnkIs w N l hv d) (hm : Mut G w w') (hG : ∀ b, b < w.heap.size → G b → N b) (hf : ∀ b, fpK l hv b → ¬ G b) : RLnkIs w' N l hv d := by
  obtain ⟨xs, h1, h2⟩ := h.it
  exact ⟨h.box.mut hm (hf l (.inl rfl)), ⟨xs, h1.mut hm fun g e => hf g (.inr e), h2.mut hm hG⟩, h.nl, h.nh, h.bu, h.bq, h.bl⟩
theorem RLnkIs.ext (h : RLnkIs w N l hv d) (hb : Below w.heap.size w w') : RLnkIs w' N l hv d :=
  h.mut (Mut.of_below (F := fun _ => False) hb) (fun _ _ e => e.elim) fun _ _ e => e
theorem RLnkIs.less (h : RLnkIs w N l hv d) (hf : ∀ b, fpK l hv b → N' b) (h2 : ∀ b, N' b → N b ∨ w.heap.size ≤ b) : RLnkIs w N' l hv d := by
  obtain ⟨xs, g1, g2⟩ := h.it
  exact ⟨h.box, ⟨xs, g1, g2.grow h2⟩, hf _ (.inl rfl), fun g e => ⟨hf _ (.inr e), (h.nh g e).2⟩, h.bu, h.bq, h.bl⟩
theorem RLnkIs.lit (h : RLnkIs w N l hv d) : ∃ a c, hv = .slice a d.held.length c ∧ d.held.length ≤ c := by
  obtain ⟨xs, h1, h2⟩ := h.it
  obtain ⟨a, c, e, hc⟩ := h1.sli
  rw [h2.1, List.length_map] at e hc
  exact ⟨a, c, e, hc⟩
theorem RLnkIs.item (h : RLnkIs w N l hv d) {i : Nat} {p : Nat × List Nat} (hi : d.held[i]? = some p) :
    ∃ g off cap u, hv = .slice (some ⟨g, off, none⟩) d.held.length cap ∧ g < w.heap.size ∧ w.cell? ⟨g, off + i * 2, none⟩ = some (.int .u64 p.1) ∧ w.cell? ⟨g, off + i * 2 + 1, none⟩ = some u ∧ ItemAt w N u p.2 := by
  obtain ⟨xs, h1, h2⟩ := h.it
  have hlt := (List.getElem?_eq_some_iff.1 hi).1
  have hge : d.held[i] = p := (List.getElem?_eq_some_iff.1 hi).2
  obtain ⟨u, hu, h3⟩ := h2.2 i (by rw [List.length_map]; exact hlt)
  rw [List.getElem_map, hge] at hu h3
  obtain ⟨g, off, cap, e, hg, hc⟩ := h1.at hu
  rw [h2.1, List.length_map] at e
  exact ⟨g, off, cap, u, e, hg, hc 0 _ rfl, hc 1 _ rfl, h3⟩
theorem RLnkIs.owe (h : RLnkIs w N l hv d) (o : Bool) : RLnkIs (w.setCell ⟨l, 2, none⟩ (.bool o)) N l hv { d with owes := o } ∧ Mut (fun b => b = l) w (w.setCell ⟨l, 2, none⟩ (.bool o)) := by
  have hm : Mut (fun b => b = l) w (w.setCell ⟨l, 2, none⟩ (.bool o)) := mut1
  obtain ⟨xs, h1, h2⟩ := h.it
  exact ⟨⟨h.box.set2 _, ⟨xs, h1.mut hm fun g e => (h.nh g e).2, h2.mut hm fun b _ e => by rw [show b = l from e]; exact h.nl⟩, h.nl, h.nh, h.bu, h.bq, h.bl⟩, hm⟩
set_option maxRecDepth 100000 in
theorem RLnkIs.upd (h : RLnkIs w N l hv d) (u : Nat) (hu : u < 18446744073709551616) : RLnkIs (w.setCell ⟨l, 0, none⟩ (.int .u64 u)) N l hv { d with upto := u } ∧ Mut (fun b => b = l) w (w.setCell ⟨l, 0, none⟩ (.int .u64 u)) := by
  have hm : Mut (fun b => b = l) w (w.setCell ⟨l, 0, none⟩ (.int .u64 u)) := mut1
  obtain ⟨xs, h1, h2⟩ := h.it
  exact ⟨⟨h.box.set0 _, ⟨xs, h1.mut hm fun g e => (h.nh g e).2, h2.mut hm fun b _ e => by rw [show b = l from e]; exact h.nl⟩, h.nl, h.nh, hu, h.bq, h.bl⟩, hm⟩
set_option maxRecDepth 100000 in
/-- other items are held; what was written is new, or the row that was -/
theorem RLnkIs.held' {G : Nat → Prop} (h : RLnkIs w N l hv d) (hm : Mut G w w4) (hGl : ¬ G l) {xs' : List (List Value)} {its : List (Nat × List Nat)} (hrow : RowP w4 0 2 hv' xs') (hels : ElsAt w4 N' xs' (its.map itemC)) (hNN : N' l) (hnew : ∀ g, hv'.ownBlock = some g → N' g ∧ g ≠ l) (hbq : ∀ p ∈ its, p.1 < 18446744073709551616) (hbl : its.length ≤ 999990) :
    RLnkIs (w4.setCell ⟨l, 1, none⟩ hv') N' l hv' { d with held := its } ∧ w4.cell? ⟨l, 1, none⟩ = some hv ∧ w4.frozen? ⟨l, 1, none⟩ = false := by
  have hbox := h.box.mut hm hGl
  have hms : Mut (fun k => k = l) w4 (w4.setCell ⟨l, 1, none⟩ hv') := mut1
  exact ⟨⟨hbox.set1 _, ⟨xs', hrow.mut hms fun g e => (hnew g e).2, hels.mut hms fun b _ e => by rw [show b = l from e]; exact hNN⟩, hNN, hnew, h.bu, hbq, hbl⟩, hbox.c1, hbox.f 1⟩
end
/-- where it is held; -1: nowhere -/
def rfindI (q : Nat) (held : List (Nat × List Nat)) : Int := match lookI q held 0 with
  | some (j, _) => (j : Int)
  | none => -1
theorem lookI_drop {q k : Nat} {held : List (Nat × List Nat)} {p : Nat × List Nat} (hp : held[k]? = some p) : lookI q (held.drop k) k = if q = p.1 then some (k, p.2) else lookI q (held.drop (k + 1)) (k + 1) := by
  have hlt := (List.getElem?_eq_some_iff.1 hp).1
  rw [List.drop_eq_getElem_cons hlt, (List.getElem?_eq_some_iff.1 hp).2]
  rfl
set_option maxRecDepth 100000 in
set_option maxHeartbeats 3200000 in
theorem rfind_any {w : World} {N : Nat → Prop} {l q : Nat} {hv : Value} {d : RLnk} (h : RLnkIs w N l hv d) (hq : q < 18446744073709551616) :
    Calls Try.prog 54 #[.pointer (some ⟨l, 0, none⟩), .int .u64 q] w fun e w' => e = .returned (.int .i64 (rfindI q d.held)) ∧ w' = w := by
  obtain ⟨a, c, hlit, -⟩ := h.lit
  obtain ⟨n, hn⟩ : ∃ n, d.held.length = n := ⟨_, rfl⟩
  rw [hn] at hlit
  subst hlit
  have c1 := h.box.c1
  have HI := hid h
  have HN := hid hn
  have HBL : Hid (n ≤ 999990) := hid (by have := h.bl; omega)
  clear h hn
  go_enter Try.func54, Try.ntmps54
  go_wp2_with fail
  go_loopw [4, 5] (fun rs kv wr => rs = .int .i64 0 ∧ Hid (wr = w) ∧ ∃ k : Nat, kv = .int .i64 k ∧ k ≤ n ∧ Hid (lookI q d.held 0 = lookI q (d.held.drop k) k)) (fun _ kv _ => n - (intOf kv).toNat)
  case atStart => exact ⟨rfl, hid rfl, 0, rfl, Nat.zero_le _, hid rfl⟩
  case round =>
    obtain ⟨rfl, HW, k, rfl, hk, HL⟩ := hrel
    obtain rfl := HW.out
    have hbl := HBL.out
    by_cases hlt : k < n
    · have t1 : decide ((k : Int) < (n : Int)) = true := decide_eq_true (by omega)
      have t2 : decide (k < n) = true := decide_eq_true hlt
      obtain ⟨p, hp⟩ : ∃ p, d.held[k]? = some p := ⟨_, List.getElem?_eq_getElem (by rw [HN.out]; exact hlt)⟩
      obtain ⟨g, off, cap, u, e, hg, q0, -, -⟩ := HI.out.item hp
      injection e with e1 e2 e3
      subst e1
      clear e2 e3
      have HLD := hid (lookI_drop (q := q) hp)
      clear hp hg
      by_cases hpq : q = p.1
      · subst hpq
        have HR : Hid (rfindI p.1 d.held = (k : Int)) := hid (by unfold rfindI; rw [HL.out, HLD.out, if_pos rfl])
        go_wp2_with fail
        go_ret
        exact ⟨by rw [HR.out]; rfl, rfl⟩
      · have z1 : ((p.1 : Int) == (q : Int)) = false := by simp; omega
        have HLN : Hid (lookI q d.held 0 = lookI q (d.held.drop (k + 1)) (k + 1)) := hid (by rw [HL.out, HLD.out, if_neg hpq])
        clear hpq
        go_wp2_with fail
        refine ⟨⟨rfl, (by first | exact hid rfl | exact hid trivial), k + 1, by go_num, by omega, HLN⟩, ?_⟩
        simp [intOf]; omega
    · have hkn : k = n := by omega
      have t1 : decide ((k : Int) < (n : Int)) = false := decide_eq_false (by omega)
      have t2 : decide (k < n) = false := decide_eq_false hlt
      have HR : Hid (rfindI q d.held = -1) := hid (by unfold rfindI; rw [HL.out, List.drop_eq_nil_of_le (by rw [HN.out]; omega)]; rfl)
      go_wp2_with fail
      go_ret
      exact ⟨by rw [HR.out]; rfl, rfl⟩
end Go.Proofs.Ytidohmpnefcpcaa


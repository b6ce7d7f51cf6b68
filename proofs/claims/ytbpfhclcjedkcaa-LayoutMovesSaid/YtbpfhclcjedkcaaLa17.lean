/- Parts of the proof: X98 X97 X99 ShelfL. -/
import Derived.Shelf.SlSortCmp.NoneTotal
import Derived.Test.YtbpfhclcjedkcaaChecked
import Derived.Deep.LoopGhost
import Derived.WalkMore
import Derived.Test.YtbpfhclcjedkcaaLa15
import Derived.Test.YtbpfhclcjedkcaaLa16
namespace Go.Proofs.Ytbpfhclcjedkcaa
open Go.RowKit
/-! ### layout: join -/
theorem PidRow.mutN {G : Nat → Prop} {w w' : World} {a : Option Addr} {xs : List Pid} (h : PidRow w a xs) (hm : Mut G w w') (hG : ∀ b off, a = some ⟨b, off, none⟩ → ¬ G b) : PidRow w' a xs :=
  h.mutT hm (fun b off e _ => hG b off e)
theorem lens_total (ls : LL) (l : List Pid) (h : l ∈ ls) : l.length ≤ total ls := by
  induction ls with
  | nil => cases h
  | cons x r ih =>
    rw [total_cons]
    rcases List.mem_cons.1 h with rfl | h
    · omega
    · have := ih h; omega
theorem total_erase : ∀ {ls : LL} {k : Nat} (h : k < ls.length), total (ls.eraseIdx k) + ls[k].length = total ls
  | x :: r, 0, _ => by rw [total_cons]; simp; omega
  | x :: r, k + 1, h => by
    have ih := total_erase (ls := r) (k := k) (by simpa using h)
    simp only [List.eraseIdx_cons_succ, total_cons, List.getElem_cons_succ]
    omega
set_option maxRecDepth 100000 in
set_option maxHeartbeats 6400000 in
theorem join_any {w : World} {base g cap k : Nat} {cs : List Sl} {ls : LL} {N : Nat} (hN : Hid (ls.length = N)) (h : LLs w base (.slice (some ⟨g, 0, none⟩) N cap) cs ls) (hbase : base ≤ w.heap.size) (hk : k < N) (h2 : 2 ≤ N) (hl : total ls ≤ 1000000) (hNl : N ≤ 1000000) (hm : cap ≤ 9223372036854775807) :
    Calls Try.prog 243 #[.slice (some ⟨g, 0, none⟩) N cap, .int .i64 k] w fun e w' => ∃ v' cs', e = .returned v' ∧ LLs w' base v' cs' (joinL ls k) ∧ Keeps w (.slice (some ⟨g, 0, none⟩) N cap) cs w' v' cs' := by
  have hN' := hN.out
  subst hN'
  obtain ⟨g', cap', s, e0, hcap, hbg, hgw, hcs, hcell, hfr, hown, hsg⟩ := h.get hk
  cases e0
  have hgd : ls.getD k [] = ls[k] := by simp [List.getD, hk]
  have htot := total_erase hk
  obtain ⟨l, hl'⟩ : ∃ l, ls[k] = l := ⟨_, rfl⟩
  rw [hl'] at hown hgd htot
  obtain ⟨a, c, he, he2, hrow, hlc, hblk⟩ := hown.sl
  rw [he] at hcell
  have hsa : ∀ b off, a = some ⟨b, off, none⟩ → b ≠ g := by
    intro b off e eb
    refine hsg ?_
    have : encS s = .slice a l.length c := he
    rw [← own_encS, this, e, eb]; rfl
  obtain ⟨n, hn⟩ : ∃ n, l.length = n := ⟨_, rfl⟩
  rw [hn] at hcell
  obtain ⟨z, hz⟩ : ∃ z, (k : Int) + 1 = z := ⟨_, rfl⟩
  have hw1 : IntKind.i64.wrap ((k : Int) + 1) = z := by rw [IntKind.wrap_i64] <;> omega
  have C1 := delete_any (z := z) hz.symm h hk hcap hm
  obtain ⟨D, hD⟩ : ∃ D, ls.eraseIdx k = D := ⟨_, rfl⟩
  obtain ⟨M, hM⟩ : ∃ M, D.length = M := ⟨_, rfl⟩
  have hDl : D.length = ls.length - 1 := by rw [← hD, List.length_eraseIdx]; simp [hk]
  rw [hD, hM] at C1
  rw [hD] at htot
  have h0D : 0 < D.length := by omega
  obtain ⟨j, hj, hfew⟩ := fewL_some h0D
  have C1 := hid C1
  have HROW := hid hrow
  have HL := hid hl'
  have HLN := hid hn
  have HGD := hid hgd
  have HD := hid hD
  have HM := hid hM
  have HJ := hid hj
  have HF := hid hfew
  have HTOT := hid (And.intro htot hl)
  have HZ0 := hid (And.intro hgw hbg)
  have HSA := hid hsa
  have HDL := hid hDl
  have hD6 : D.length ≤ 70368744177664 := by omega
  have HD6 := hid hD6
  clear hrow hl' hn hgd hD hM hj hfew htot hl hbg hsa hDl h0D he he2 hown hblk hsg hcs hfr hlc hD6 hcap hz
  go_enter Try.func243, Try.ntmps243
  go_wp2_with fail
  (with_reducible refine C1.out.mono ?_)
  rintro e w2 ⟨rfl, hs2, hm2⟩
  have hr2 : LeafRow w2 (some ⟨g, 0, none⟩) D := by
    obtain ⟨x, y, e, hr⟩ := (show LLs w2 base (.slice (some ⟨g, 0, none⟩) D.length cap) (cs.eraseIdx k) D by rw [HM.out]; exact hs2).row
    cases e; exact hr
  have C2 := fewest_any (c := cap) HD6.out hr2
  rw [HM.out, HF.out] at C2
  have hrow2 := HROW.out.mutN hm2 (fun b off e hb => HSA.out b off e hb)
  obtain ⟨g', cap', s2, e0, hcap2, hbg2, hgw2, hcs2, hcell2, hfr2, hown2, hsg2⟩ := (show LLs w2 base (.slice (some ⟨g, 0, none⟩) D.length cap) (cs.eraseIdx k) D by rw [HM.out]; exact hs2).get HJ.out
  cases e0
  obtain ⟨y, hy⟩ : ∃ y, D[j]'HJ.out = y := ⟨_, rfl⟩
  rw [hy] at hown2
  have hyl : y.length ≤ total D := by rw [← hy]; exact lens_total D _ (List.getElem_mem HJ.out)
  obtain ⟨a2, c2, he2, he22, hrow22, hlc2, hblk2⟩ := hown2.sl
  rw [he2] at hcell2
  obtain ⟨m2, hm22⟩ : ∃ m2, y.length = m2 := ⟨_, rfl⟩
  rw [hm22] at hcell2 he2
  rw [he2] at hown2
  have C2 := hid C2
  have HS2 := hid hs2
  have HM2 := hid hm2
  have HY := hid hy
  have HYL := hid (And.intro hm22 hyl)
  have HCS2 := hid hcs2
  have HE2 := hid he2
  have HB2 : Hid (base ≤ w2.heap.size) := hid (by have := hm2.size; omega)
  have HG2 := hid (And.intro hgw2 hbg2)
  have HSG2 := hid hsg2
  have HOWN2 := hid hown2
  have HROW2 := hid hrow2
  have HFR2 := hid hfr2
  have HCELL2 := hid hcell2
  have HLL : Hid (y.length + n ≤ 1099511627776) := hid (by have := HTOT.out; have := HLN.out; omega)
  clear hs2 hm2 hy hyl hm22 hcs2 he2 hgw2 hbg2 hsg2 hown2 hrow2 hfr2 hr2 hblk2 hrow22 hlc2 hcap2 C1 he22
  go_wp2_with fail
  (with_reducible refine C2.out.mono ?_)
  rintro e w3 ⟨rfl, rfl⟩
  clear C2
  have hcell3 := HCELL2.out
  have hjM : j < M := by rw [← HM.out]; exact HJ.out
  go_wp2_with (at_builtin; refine wpList_appendPat HOWN2.out HROW2.out HLN HLL.out HB2.out rfl rfl (by simp [Act.eval, Act.put]; try rfl) rfl ?_; intro v6 w6 hown6 hg6 hat6; obtain ⟨a6, c6, e6, e6s, hr6, hl6, hblk6⟩ := hown6.sl; obtain ⟨m6, hm6⟩ : ∃ m6, (y ++ l).length = m6 := ⟨_, rfl⟩; rw [hm6] at e6 e6s; subst e6; have hmS := grown_mutS hg6; have hne6 : ¬ (Value.slice a2 m2 c2).ownBlock = some g := (fun e => HSG2.out (by rw [← own_encS, HE2.out]; exact e)); have hcc : w6.cell? ⟨g, j, none⟩ = some (.slice a2 m2 c2) := (hmS.cell (p := ⟨g, j, none⟩) HG2.out.1 hne6).trans HCELL2.out; have hff : w6.frozen? ⟨g, j, none⟩ = false := (hmS.frozen (p := ⟨g, j, none⟩) HG2.out.1 hne6).trans HFR2.out; have HOWN6 := hid hown6; have HMS := hid hmS; have HAT := hid hat6; have HE6 := hid e6s; clear hown6 hmS hat6 hg6 hr6 hl6 hblk6 hne6 e6s hm6 hcell3)
  go_ret
  have hput := (show LLs w2 base (.slice (some ⟨g, 0, none⟩) D.length cap) (cs.eraseIdx k) D by rw [HM.out]; exact HS2.out).put (s' := (a6, m6, c6)) (l' := y ++ l) HJ.out HCS2.out (w1 := w6) (HMS.out.mono fun b _ e => by rw [← own_encS, HE2.out]; exact e) HOWN6.out (fun q hq => by
    have hq : (Value.slice a6 m6 c6).ownBlock = some q := by rw [← hq]; exact own_encS (a6, m6, c6)
    rcases HAT.out with e | e
    · exact .inl (by rw [← own_encS, HE2.out, ← e]; exact hq)
    · refine .inr ?_
      rw [hq] at e; cases e; exact Nat.le_refl _)
  rw [HM.out] at hput
  have hs2m : s2 ∈ cs := List.mem_of_mem_eraseIdx (List.mem_of_getElem? HCS2.out)
  have hs2b : ∀ b, (Value.slice a2 m2 c2).ownBlock = some b → blkS s2 = some b := fun b e => by rw [← own_encS, HE2.out]; exact e
  refine ⟨_, (cs.eraseIdx k).set j (a6, m6, c6), rfl, ?_, ?_, ?_⟩
  · unfold joinL
    rw [HD.out, HF.out, Int.toNat_natCast, HGD.out]
    have : D.getD j [] = y := by rw [← HY.out]; simp [List.getD, HJ.out]
    rw [this]
    exact hput
  · exact ((HM2.out.mono fun b _ e => .inl (by have e : b = g := e; rw [e]; rfl)).trans (HMS.out.mono fun b _ e => .inr ⟨s2, hs2m, hs2b b e⟩)).trans (mut1.mono fun b _ e => .inl (by have e : b = g := e; rw [e]; rfl))
  · rintro b (hb | ⟨s', hs', hb⟩)
    · exact .inl (.inl hb)
    · rcases List.mem_or_eq_of_mem_set hs' with hs' | rfl
      · exact .inl (.inr ⟨s', List.mem_of_mem_eraseIdx hs', hb⟩)
      · have hb : (Value.slice a6 m6 c6).ownBlock = some b := by rw [← hb]; exact own_encS (a6, m6, c6)
        rcases HAT.out with e | e
        · exact .inl (.inr ⟨s2, hs2m, hs2b b (by rw [← e]; exact hb)⟩)
        · rw [hb] at e; cases e; exact .inr HM2.out.size
end Go.Proofs.Ytbpfhclcjedkcaa

namespace Go.Proofs.Ytbpfhclcjedkcaa
open Go.RowKit
/-! ### building a view, in plain words -/
def addL (ls : LL) (p : Pid) : LL := if fewL ls (-1) < 0 then ls ++ [[p]] else ls.set (fewL ls (-1)).toNat (ls.getD (fewL ls (-1)).toNat [] ++ [p])
def addAll (ls : LL) (come : List Pid) : LL := come.foldl addL ls
theorem few_cases (ls : LL) : (ls = [] ∧ fewL ls (-1) = -1) ∨ ∃ j : Nat, j < ls.length ∧ fewL ls (-1) = (j : Int) := by
  cases ls with
  | nil => exact .inl ⟨rfl, rfl⟩
  | cons l r => exact .inr (fewL_some (by simp))
theorem addL_perm (ls : LL) (p : Pid) : (addL ls p).flatten.Perm (ls.flatten ++ [p]) := by
  unfold addL
  rcases few_cases ls with ⟨rfl, h⟩ | ⟨j, hj, h⟩
  · rw [h, if_pos (by decide)]; simp
  · rw [h, if_neg (by omega), Int.toNat_natCast]
    obtain ⟨A, x, B, rfl, rfl, hx⟩ := split_at (d := ([] : List Pid)) hj
    rw [hx, set_mid]
    simp only [List.flatten_append, List.flatten_cons, List.append_assoc]
    exact List.Perm.append_left _ (List.Perm.append_left _ List.perm_append_comm)
theorem addL_full {ls : LL} (h : Full ls) (p : Pid) : Full (addL ls p) := by
  unfold addL
  rcases few_cases ls with ⟨rfl, e⟩ | ⟨j, hj, e⟩
  · rw [e, if_pos (by decide)]; intro l hl; simp at hl; subst hl; simp
  · rw [e, if_neg (by omega), Int.toNat_natCast]
    intro l hl
    rcases List.mem_or_eq_of_mem_set hl with hl | rfl
    · exact h l hl
    · simp
theorem addAll_ok : ∀ (come : List Pid) {ls : LL}, Full ls → Full (addAll ls come) ∧ (addAll ls come).flatten.Perm (ls.flatten ++ come)
  | [], ls, h => ⟨h, by simp [addAll]⟩
  | p :: r, ls, h => by
    obtain ⟨h1, h2⟩ := addAll_ok r (addL_full h p)
    refine ⟨h1, List.Perm.trans h2 ?_⟩
    have := (addL_perm ls p).append_right r
    simpa using this
def fitV (b : Bnd) (ls : LL) : LL := fitN b 200 ls
theorem fitV_ok {b : Bnd} (hb : bchk b = true) {ls : LL} (hf : Full ls) (ht : total ls ≤ 60) : Full (fitV b ls) ∧ (fitV b ls).flatten.Perm ls.flatten ∧ fitsL b (fitV b ls) = true :=
  fit_ok hb 200 ls hf (by have := phi_le (b := b) hf; omega)
def comeOk : List Int → List Pid → Bool
  | _, [] => true
  | S, p :: r => if p.1 ∈ S then false else comeOk (S ++ [p.1]) r
theorem comeOk_iff : ∀ {come : List Pid} {S : List Int}, comeOk S come = true ↔ (∀ p ∈ come, p.1 ∉ S) ∧ come.Pairwise fun p q => p.1 ≠ q.1
  | [], S => by simp [comeOk]
  | p :: r, S => by
    unfold comeOk
    by_cases h : p.1 ∈ S
    · rw [if_pos h]
      exact ⟨fun e => (by cases e), fun e => absurd h (e.1 p (List.mem_cons_self ..))⟩
    · rw [if_neg h, comeOk_iff]
      simp only [List.mem_append, not_or, List.mem_cons, forall_eq_or_imp, List.pairwise_cons, List.not_mem_nil, not_false_eq_true, and_true, or_false]
      constructor
      · rintro ⟨a, b⟩; exact ⟨⟨h, fun q hq => (a q hq).1⟩, fun q hq e => (a q hq).2 e.symm, b⟩
      · rintro ⟨⟨_, a⟩, c, b⟩; exact ⟨fun q hq => ⟨a q hq, fun e => c q hq e.symm⟩, b⟩
def mayAll (l : List Pid) : Bool := l.all mayB
def buildV (id : Int) (stay : List Pid) (ls : LL) (come : List Pid) (b : Bnd) : View × Int :=
  if comeOk (stay.map (·.1)) come = false then (zeroV, 9)
  else if (stay ++ come).length = 0 then (zeroV, 8)
  else if 24 < (stay ++ come).length then (zeroV, 3)
  else (⟨id, stay ++ come, ordR (stay ++ come) (fitV b (addAll ls come)), leadersL (stay ++ come) (heads (ordR (stay ++ come) (fitV b (addAll ls come))))⟩, 0)
def firstV (l : List Pid) (b : Bnd) : View × Int :=
  if bchk b = false ∨ mayAll l = false then (zeroV, 1) else buildV 1 [] [] l b
/-! ranks -/
theorem ris_pw {ms : List Pid} : ∀ {xs : List Pid} {z : Int}, -1 ≤ z → (∀ x ∈ xs, z < atIx ms x) → xs.Pairwise (fun p q => atIx ms p < atIx ms q) → risFrom (ranksL ms) z xs = true
  | [], _, _, _, _ => rfl
  | p :: r, z, hz, h, hp => by
    obtain ⟨h1, h2⟩ := List.pairwise_cons.1 hp
    have hpz := h p (List.mem_cons_self ..)
    unfold risFrom
    rw [look_ranksL]
    unfold rankO
    rw [if_neg (by omega)]
    simp only
    rw [if_neg (by omega)]
    exact ris_pw (by omega) h1 h2
theorem pw_self {ms : List Pid} (h : ms.Nodup) : ms.Pairwise (fun p q => atIx ms p < atIx ms q) := by
  rw [List.pairwise_iff_getElem]
  intro i j hi hj hij
  rw [atIx_nd h hi, atIx_nd h hj]; omega
theorem atIx_mem {ms : List Pid} (h : ms.Nodup) {p : Pid} (hp : p ∈ ms) : -1 < atIx ms p := by
  obtain ⟨i, hi, rfl⟩ := List.mem_iff_getElem.1 hp
  rw [atIx_nd h hi]; omega
theorem ris_sub {ms xs : List Pid} (h : ms.Nodup) (hs : xs.Sublist ms) : risFrom (ranksL ms) (-1) xs = true :=
  ris_pw (by omega) (fun _ hx => atIx_mem h (hs.subset hx)) ((pw_self h).sublist hs)
theorem count_one {l : List Pid} (h : l.Nodup) {a : Pid} (ha : a ∈ l) : l.count a = 1 := (count_iff h (fun _ hx => hx)).2 ⟨rfl, h⟩ a ha
theorem perm_of {a b : List Pid} (ha : a.Nodup) (hb : b.Nodup) (h : ∀ x, x ∈ a ↔ x ∈ b) : a.Perm b := by
  rw [List.perm_iff_count]; intro x
  by_cases hx : x ∈ a
  · rw [count_one ha hx, count_one hb ((h x).1 hx)]
  · rw [List.count_eq_zero.2 hx, List.count_eq_zero.2 (fun e => hx ((h x).2 e))]
theorem flat_map_perm {f : List Pid → List Pid} : ∀ {ls : LL}, (∀ l ∈ ls, (f l).Perm l) → (ls.map f).flatten.Perm ls.flatten
  | [], _ => List.Perm.refl _
  | l :: r, h => by
    simp only [List.map_cons, List.flatten_cons]
    exact (h l (List.mem_cons_self ..)).append (flat_map_perm fun x hx => h x (List.mem_cons_of_mem _ hx))
section
variable {ms : List Pid} {ls : LL}
theorem Parts.leaf_nd (h : Parts ms ls) {l : List Pid} (hl : l ∈ ls) : l.Nodup := (List.pairwise_flatten.1 (h.perm.nodup_iff.2 h.nd)).1 l hl
theorem Parts.leaf_sub (h : Parts ms ls) {l : List Pid} (hl : l ∈ ls) {p : Pid} (hp : p ∈ l) : p ∈ ms := h.perm.mem_iff.1 (List.mem_flatten.2 ⟨l, hl, hp⟩)
theorem Parts.common_perm (h : Parts ms ls) {l : List Pid} (hl : l ∈ ls) : (commonP ms l).Perm l :=
  perm_of (List.Pairwise.sublist List.filter_sublist h.nd) (h.leaf_nd hl) fun x => by
    unfold commonP
    rw [List.mem_filter]
    exact ⟨fun e => by simpa using e.2, fun e => ⟨h.leaf_sub hl e, by simpa using e⟩⟩
theorem Parts.ord_flat (h : Parts ms ls) : (ordR ms ls).flatten.Perm ms :=
  h.ord_perm.flatten.trans ((flat_map_perm fun _ hl => h.common_perm hl).trans h.perm)
theorem Parts.ord_mem (h : Parts ms ls) {c : List Pid} (hc : c ∈ ordR ms ls) : ∃ l ∈ ls, c = commonP ms l := by
  obtain ⟨l, hl, rfl⟩ := List.mem_map.1 (h.ord_perm.mem_iff.1 hc); exact ⟨l, hl, rfl⟩
theorem Parts.ord_full (h : Parts ms ls) : Full (ordR ms ls) := fun c hc e => by
  obtain ⟨l, hl, rfl⟩ := h.ord_mem hc
  have := h.head hl
  rw [e] at this
  cases this
theorem Parts.ord_parts (h : Parts ms ls) : Parts ms (ordR ms ls) := ⟨h.nd, h.ord_full, h.ord_flat⟩
theorem Parts.ord_strict (h : Parts ms ls) : (ordR ms ls).Pairwise fun a b => Go.Proofs.Ytbpfhclcjedkcaa.hdIx ms a < Go.Proofs.Ytbpfhclcjedkcaa.hdIx ms b := by
  have hk : ∀ i, ∀ a ∈ (ls.filter fun l => decide (keyL ms l = i)).map (commonP ms), Go.Proofs.Ytbpfhclcjedkcaa.hdIx ms a = (i : Int) := by
    intro i a ha
    obtain ⟨l, hl, rfl⟩ := List.mem_map.1 ha
    obtain ⟨h1, h2⟩ := List.mem_filter.1 hl
    rw [h.hdIx h1]
    have : keyL ms l = i := by simpa using h2
    rw [this]
  unfold ordR
  rw [List.pairwise_flatMap]
  refine ⟨fun i _ => ?_, ?_⟩
  · rw [List.pairwise_map]
    refine List.Pairwise.imp_of_mem ?_ (h.keys.sublist List.filter_sublist)
    intro a b ha hb hab
    have e1 : keyL ms a = i := by simpa using (List.mem_filter.1 ha).2
    have e2 : keyL ms b = i := by simpa using (List.mem_filter.1 hb).2
    exact absurd (e1.trans e2.symm) hab
  · refine List.Pairwise.imp ?_ List.pairwise_lt_range
    intro i j hij a ha b hb
    rw [hk i a ha, hk j b hb]; omega
theorem heads_fm : ∀ ls : LL, heads ls = ls.filterMap List.head?
  | [] => rfl
  | l :: r => by cases l <;> simp [heads, heads_fm r, List.filterMap_cons]
theorem Parts.heads_pw (h : Parts ms ls) : (heads (ordR ms ls)).Pairwise fun p q => atIx ms p < atIx ms q := by
  rw [heads_fm, List.pairwise_filterMap]
  refine h.ord_strict.imp ?_
  intro a b hab p hp q hq
  unfold Go.Proofs.Ytbpfhclcjedkcaa.hdIx at hab
  rw [List.headD_eq_head?_getD, hp, List.headD_eq_head?_getD, hq] at hab
  simpa using hab
theorem heads_mem {p : Pid} (h : p ∈ heads ls) : ∃ l ∈ ls, l.head? = some p := by rw [heads_fm, List.mem_filterMap] at h; exact h
theorem Parts.heads_sub (h : Parts ms ls) : ∀ p ∈ heads ls, p ∈ ms := fun p hp => by
  obtain ⟨l, hl, e⟩ := heads_mem hp
  exact h.leaf_sub hl (List.mem_of_head? e)
theorem Parts.heads_nd (h : Parts ms ls) : (heads (ordR ms ls)).Nodup := h.heads_pw.imp fun hlt e => by rw [e] at hlt; omega
end
/-! the leaders -/
theorem leadS_ok : ∀ (r : List Pid) {ms S : List Pid}, (∀ p ∈ r, p ∈ ms) → S.Nodup → (∀ p ∈ S, p ∈ ms) → (leadS r S).Nodup ∧ (∀ p ∈ leadS r S, p ∈ ms) ∧ (∀ p ∈ S, p ∈ leadS r S) ∧ (3 ≤ (leadS r S).length ∨ ∀ p ∈ r, p ∈ leadS r S)
  | [], ms, S, _, hn, hs => ⟨hn, hs, fun _ h => h, .inr (by simp)⟩
  | p :: r, ms, S, hr, hn, hs => by
    by_cases h3 : 3 ≤ S.length
    · rw [leadS_full _ h3]
      exact ⟨hn, hs, fun _ h => h, .inl h3⟩
    · have e0 : leadS (p :: r) S = leadS r (leadStep S p) := rfl
      rw [e0]
      by_cases hp : p ∈ S
      · have e : leadStep S p = S := by unfold leadStep; rw [if_neg h3, if_pos hp]
        rw [e]
        obtain ⟨a, b, c, d⟩ := leadS_ok r (fun q hq => hr q (List.mem_cons_of_mem _ hq)) hn hs
        refine ⟨a, b, c, d.imp id fun d q hq => ?_⟩
        rcases List.mem_cons.1 hq with rfl | hq
        · exact c _ hp
        · exact d q hq
      · have e : leadStep S p = S ++ [p] := by unfold leadStep; rw [if_neg h3, if_neg hp]
        rw [e]
        obtain ⟨a, b, c, d⟩ := leadS_ok (ms := ms) r (fun q hq => hr q (List.mem_cons_of_mem _ hq)) (S := S ++ [p]) (by
          rw [List.nodup_append]
          refine ⟨hn, by simp, fun x hx y hy e => ?_⟩
          rw [List.mem_singleton.1 hy] at e
          exact hp (e ▸ hx)) (fun q hq => by
          rcases List.mem_append.1 hq with hq | hq
          · exact hs q hq
          · rw [List.mem_singleton.1 hq]; exact hr p (List.mem_cons_self ..))
        refine ⟨a, b, fun q hq => c q (List.mem_append_left _ hq), d.imp id fun d q hq => ?_⟩
        rcases List.mem_cons.1 hq with rfl | hq
        · exact c _ (by simp)
        · exact d q hq
theorem leaders_len {ms hs : List Pid} (hn : ms.Nodup) (hh : hs.Nodup) (hsub : ∀ p ∈ hs, p ∈ ms) : min 3 ms.length ≤ (leadersL ms hs).length := by
  obtain ⟨a, b, -, d⟩ := leadS_ok ms (fun _ h => h) hh hsub
  have e : (leadersL ms hs).length = (leadS ms hs).length := by
    refine List.Perm.length_eq (perm_of (List.Pairwise.sublist List.filter_sublist hn) a fun x => ?_)
    unfold leadersL
    rw [List.mem_filter]
    exact ⟨fun e => by simpa using e.2, fun e => ⟨b x e, by simpa using e⟩⟩
  rw [e]
  rcases d with d | d
  · omega
  · have := nodup_len hn d; omega
/-- what is built may be -/
theorem built_check {id : Int} {ms : List Pid} {ls : LL} (h : Parts ms ls) (h1 : 1 ≤ id) (h2 : id ≤ 4611686018427387904) (hm : membersB ms = true) : checkB ⟨id, ms, ordR ms ls, leadersL ms (heads (ordR ms ls))⟩ = true := by
  have h0 : 0 < ms.length := by unfold membersB at hm; rw [memFrom_iff] at hm; exact hm.1.1
  rw [checkB_4 h1 h2 hm, chkFrom_iff]
  refine ⟨fun c hc => ⟨h.ord_full c hc, ?_⟩, ?_⟩
  · obtain ⟨l, hl, rfl⟩ := h.ord_mem hc
    exact ris_sub h.nd List.filter_sublist
  · unfold chkEnd
    have e1 : lens (ordR ms ls) = ms.length := by
      have e1 := lens_flatten (ordR ms ls)
      have e2 := h.ord_flat.length_eq
      exact e1.symm.trans e2
    simp only [List.nil_append, Nat.zero_add, Bool.and_eq_true, decide_eq_true_eq]
    refine ⟨e1, ?_, ?_, ?_, ?_⟩
    · rw [e1, ← h.ord_flat.length_eq, unionL_nodup]; exact h.ord_flat.nodup_iff.2 h.nd
    · exact ris_pw (by omega) (fun x hx => atIx_mem h.nd (h.ord_parts.heads_sub x hx)) h.heads_pw
    · intro e
      have := leaders_len h.nd h.heads_nd h.ord_parts.heads_sub
      rw [e] at this
      simp only [List.length_nil] at this
      omega
    · exact ris_sub h.nd List.filter_sublist
/-! fitting -/
/-! a view that may be -/
/-- what comes behind those who stay -/
theorem built_parts {stay come : List Pid} {ls : LL} (hp : Parts stay ls) (hi : stay.Pairwise fun p q => p.1 ≠ q.1) (hc : comeOk (stay.map (·.1)) come = true) : (stay ++ come).Pairwise (fun p q => p.1 ≠ q.1) ∧ Parts (stay ++ come) (addAll ls come) := by
  obtain ⟨c1, c2⟩ := comeOk_iff.1 hc
  have hids : (stay ++ come).Pairwise (fun p q => p.1 ≠ q.1) := by
    rw [List.pairwise_append]
    refine ⟨hi, c2, fun p hp q hq e => c1 q hq (List.mem_map.2 ⟨p, hp, e⟩)⟩
  obtain ⟨a1, a2⟩ := addAll_ok come hp.full
  exact ⟨hids, nodup_of_ids hids, a1, a2.trans (hp.perm.append_right come)⟩
structure BuiltOk (id : Int) (ms : List Pid) (b : Bnd) (V : View) : Prop where
  ex : ∃ ls, Parts ms ls ∧ fitsL b ls = true ∧ V = ⟨id, ms, ordR ms ls, leadersL ms (heads (ordR ms ls))⟩
  mem : membersB ms = true
theorem BuiltOk.check {id : Int} {ms : List Pid} {b : Bnd} {V : View} (h : BuiltOk id ms b V) (h1 : 1 ≤ id) (h2 : id ≤ 4611686018427387904) : checkB V = true := by
  obtain ⟨ls, hp, -, rfl⟩ := h.ex
  exact built_check hp h1 h2 h.mem
theorem BuiltOk.id {i : Int} {ms : List Pid} {b : Bnd} {V : View} (h : BuiltOk i ms b V) : V.id = i := by
  obtain ⟨ls, hp, -, rfl⟩ := h.ex; rfl
theorem BuiltOk.ms {i : Int} {ms : List Pid} {b : Bnd} {V : View} (h : BuiltOk i ms b V) : V.ms = ms := by
  obtain ⟨ls, hp, -, rfl⟩ := h.ex; rfl
end Go.Proofs.Ytbpfhclcjedkcaa

namespace Go.Proofs.Ytbpfhclcjedkcaa
open Go.RowKit
/-! ### layout: fit -/
theorem fitN_part {b : Bnd} {n : Nat} {ls : LL} {i : Nat} (h : greatL b ls = (i : Int)) : fitN b (n + 1) ls = fitN b n (partL ls i) := by
  show (if 0 ≤ greatL b ls then _ else _) = _
  rw [h, if_pos (by omega), Int.toNat_natCast]
theorem fitN_join {b : Bnd} {n : Nat} {ls : LL} {i : Nat} (hg : greatL b ls < 0) (h : smallL b ls = (i : Int)) : fitN b (n + 1) ls = fitN b n (joinL ls i) := by
  show (if 0 ≤ greatL b ls then _ else if 0 ≤ smallL b ls then _ else _) = _
  rw [if_neg (by omega), h, if_pos (by omega), Int.toNat_natCast]
theorem fitN_stop {b : Bnd} {n : Nat} {ls : LL} (hg : greatL b ls < 0) (h : smallL b ls < 0) : fitN b n ls = ls := by
  cases n with
  | zero => rfl
  | succ n =>
    show (if 0 ≤ greatL b ls then _ else if 0 ≤ smallL b ls then _ else _) = _
    rw [if_neg (by omega), if_neg (by omega)]
theorem perm_total {a b : LL} (h : a.flatten.Perm b.flatten) : total a = total b := by
  rw [← total_flat, ← total_flat]; exact h.length_eq
theorem getD_total (ls : LL) (i : Nat) : (ls.getD i []).length ≤ total ls := by
  by_cases h : i < ls.length
  · have : ls.getD i [] = ls[i] := by simp [List.getD, h]
    rw [this]; exact lens_total ls _ (List.getElem_mem h)
  · have : ls.getD i [] = [] := by simp [List.getD, List.getElem?_eq_none (by omega : ls.length ≤ i)]
    rw [this]; exact Nat.zero_le _
theorem great_ext {w0 : World} {U : ExtW w0} {b : Bnd} {a : Option Addr} {c n : Nat} {ls : LL} {G : Int} (hG : Hid (greatL b ls = G)) (hN : Hid (ls.length = n)) (hn : n ≤ 1000000) (hrow : LeafRow w0 a ls) :
    Calls Try.prog 171 #[.slice a n c, .agg #[.int .i64 b.least, .int .i64 b.most, .int .i64 b.tmo]] U.W fun e w' => e = .returned (.int .i64 G) ∧ ∃ U' : ExtW w0, w' = U'.W := by
  have hN := hN.out; subst hN
  refine (lgreat_any (b := b) (c := c) (by omega) (hrow.ext U.h)).mono ?_
  rintro e w' ⟨rfl, hb⟩
  exact ⟨by rw [hG.out], ⟨_, U.h.trans (hb.mono U.h.size)⟩, rfl⟩
theorem small_ext {w0 : World} {U : ExtW w0} {b : Bnd} {a : Option Addr} {c n : Nat} {ls : LL} {G : Int} (hG : Hid (smallL b ls = G)) (hN : Hid (ls.length = n)) (hn : n ≤ 1000000) (hrow : LeafRow w0 a ls) :
    Calls Try.prog 172 #[.slice a n c, .agg #[.int .i64 b.least, .int .i64 b.most, .int .i64 b.tmo]] U.W fun e w' => e = .returned (.int .i64 G) ∧ ∃ U' : ExtW w0, w' = U'.W := by
  have hN := hN.out; subst hN
  refine (lsmall_any (b := b) (c := c) (by omega) (hrow.ext U.h)).mono ?_
  rintro e w' ⟨rfl, hb⟩
  exact ⟨by rw [hG.out], ⟨_, U.h.trans (hb.mono U.h.size)⟩, rfl⟩
structure FitSt (b : Bnd) (W1 : World) (base : Nat) (v0 : Value) (cs0 : List Sl) (ls0 : LL) (n : Nat) (wr : World) (v : Value) (cs : List Sl) (ls : LL) : Prop where
  own : LLs wr base v cs ls
  full : Full ls
  tot : total ls ≤ 60
  ph : phi b ls ≤ n
  eq : fitN b 200 ls0 = fitN b n ls
  kp : Keeps W1 v0 cs0 wr v cs
theorem LLs.lit {w : World} {base : Nat} {v : Value} {cs : List Sl} {ls : LL} (h : LLs w base v cs ls) (h0 : 0 < ls.length) : ∃ g cap, v = .slice (some ⟨g, 0, none⟩) ls.length cap ∧ cap ≤ 9223372036854775807 := by
  rcases h.own.2 with ⟨-, hn⟩ | ⟨g, cap, cur, rfl, hb, hg, hnc, hcm, hcs, htake⟩
  · omega
  · exact ⟨g, cap, rfl, by unfold maxLen at hcm; omega⟩
set_option maxRecDepth 100000 in
set_option maxHeartbeats 6400000 in
theorem fit_any {w : World} {base : Nat} {b : Bnd} {a : Option Addr} {c : Nat} {cs : List Sl} {ls : LL} {N : Nat} (hN : Hid (ls.length = N)) (hb : bchk b = true) (h : LLs w base (.slice a N c) cs ls) (hf : Full ls) (ht : total ls ≤ 60) (hbase : base ≤ w.heap.size) :
    Calls Try.prog 218 #[.slice a N c, .agg #[.int .i64 b.least, .int .i64 b.most, .int .i64 b.tmo]] w fun e w' => ∃ v' cs', e = .returned v' ∧ LLs w' base v' cs' (fitV b ls) ∧ Keeps w (.slice a N c) cs w' v' cs' := by
  obtain ⟨W1, hW1⟩ : ∃ W1, w.alloc (.cells #[.int .i64 b.least, .int .i64 b.most, .int .i64 b.tmo] 117) = W1 := ⟨_, rfl⟩
  have hB1 : Below w.heap.size w W1 := by rw [← hW1]; exact (Below.refl _ _).alloc (Nat.le_refl _) _
  have hsz1 : w.heap.size < W1.heap.size := by rw [← hW1]; simp
  have hbx : BndBox W1 w.heap.size b := by rw [← hW1]; exact BndBox.made w
  have hno : ¬ inLL (.slice a N c) cs w.heap.size := fun e => by have := (h.inB e).2; omega
  have HNO := hid hno
  have HBX := hid hbx
  have HS : Hid (base ≤ W1.heap.size) := hid (by omega)
  have HSZ := hid hsz1
  have HBC := hid hb
  have HST : FitSt b W1 base (.slice a N c) cs ls 200 W1 (.slice a N c) cs ls := ⟨h.ext hB1, hf, ht, by have := phi_le (b := b) hf; omega, rfl, Keeps.refl _ _ _⟩
  have HB1 := hid hB1
  clear h hf ht hbase hbx hno hb hB1 hsz1
  go_enter Try.func218, Try.ntmps218
  go_wp2
  go_step3
  go_wp2
  go_step3
  go_wp2
  go_loopg [0] 200 (fun n v wr => ∃ cs' ls', FitSt b W1 base (.slice a N c) cs ls n wr v cs' ls')
  case atStart => exact ⟨cs, ls, HST⟩
  case round =>
    obtain ⟨cs', ls', S⟩ := hrel
    have hszr := S.kp.mt.size
    have hbr : base ≤ wr.heap.size := by have := HS.out; omega
    obtain ⟨a', c', hv, hrow⟩ := S.own.row
    obtain ⟨n', hn'⟩ : ∃ n', ls'.length = n' := ⟨_, rfl⟩
    have hl6 : n' ≤ 1000000 := by have := full_len S.full; have := S.tot; omega
    rw [hn'] at hv
    subst hv
    have z0 : wr.cell? ⟨w.heap.size, 0, none⟩ = some (.int .i64 b.least) := (S.kp.mt.cell (p := ⟨w.heap.size, 0, none⟩) HSZ.out HNO.out).trans HBX.out.c0
    have z1 : wr.cell? ⟨w.heap.size, 1, none⟩ = some (.int .i64 b.most) := (S.kp.mt.cell (p := ⟨w.heap.size, 1, none⟩) HSZ.out HNO.out).trans HBX.out.c1
    have z2 : wr.cell? ⟨w.heap.size, 2, none⟩ = some (.int .i64 b.tmo) := (S.kp.mt.cell (p := ⟨w.heap.size, 2, none⟩) HSZ.out HNO.out).trans HBX.out.c2
    have q0 := cell_extw z0
    have q1 := cell_extw z1
    have q2 := cell_extw z2
    have SH := hid S
    have HROW := hid hrow
    have HN' := hid hn'
    have HL6 := hid hl6
    have HBR := hid hbr
    obtain ⟨G, hG⟩ : ∃ G, greatL b ls' = G := ⟨_, rfl⟩
    obtain ⟨M, hM⟩ : ∃ M, smallL b ls' = M := ⟨_, rfl⟩
    have HG := hid hG
    have HM := hid hM
    clear hrow hn' hl6 hbr S z0 z1 z2 hszr hG hM
    by_cases hg0 : 0 ≤ G
    · obtain ⟨i, hi⟩ : ∃ i : Nat, G = (i : Int) := ⟨G.toNat, by omega⟩
      have hp := part_ok (b := b) HBC.out SH.out.full (by rw [HG.out]; exact hg0)
      rw [HG.out, hi, Int.toNat_natCast] at hp
      have hph := SH.out.ph
      obtain ⟨m, hm⟩ : ∃ m, gk = m + 1 := ⟨gk - 1, by omega⟩
      have t1 : decide ((0 : Int) ≤ G) = true := decide_eq_true hg0
      have t2 : decide (G ≥ 0) = true := decide_eq_true hg0
      have HP := hid hp
      have HI := hid hi
      have HMM := hid hm
      clear hp hi hg0 hph hm
      go_wp2
      refine wp_region_ext (Below.refl _ _) (by kernel_rfl) (by kernel_rfl) ?_
      repeat (go_big_quiet_step (first | (with_reducible exact great_ext HG HN' HL6.out HROW.out) | (with_reducible exact small_ext HM HN' HL6.out HROW.out)))
      refine wpQuiet_nil ?_
      rintro _ ⟨⟨w9, hb9⟩, rfl⟩
      have hown9 := SH.out.own.ext hb9
      obtain ⟨g, cap, he, hcap⟩ := SH.out.own.lit (by have := HP.out.2.2.2.1; omega)
      rw [HN'.out] at he
      have hlc := getD_total ls' i
      have C1 := hid (part_any (k := i) HN' (by rw [← he]; exact hown9) (by have := HBR.out; have := hb9.size; omega) (by have := HP.out.2.2.2.1; have := HN'.out; omega) (by have := SH.out.tot; omega) HL6.out)
      rw [← he, ← HI.out] at C1
      have HB9 := hid hb9
      clear hown9 he hlc hb9 hcap
      go_wp2_with fail
      (with_reducible refine C1.out.mono ?_)
      rintro e w2 ⟨v2, cs2, rfl, hs2, hk2⟩
      go_wp2
      go_roundg m
      case measure => have := HMM.out; omega
      case rel =>
        obtain ⟨p1, p2, p3, p4, p5⟩ := HP.out
        exact ⟨cs2, _, hs2, p2, by rw [perm_total p3]; exact SH.out.tot, by have := SH.out.ph; have := HMM.out; omega, by rw [SH.out.eq, HMM.out, fitN_part (HG.out.trans HI.out)], (SH.out.kp.ext HB9.out).trans hk2⟩
    have t1 : decide ((0 : Int) ≤ G) = false := decide_eq_false hg0
    have t2 : decide (G ≥ 0) = false := decide_eq_false hg0
    by_cases hm0 : 0 ≤ M
    · obtain ⟨i, hi⟩ : ∃ i : Nat, M = (i : Int) := ⟨M.toNat, by omega⟩
      have hp := join_ok (b := b) HBC.out SH.out.full (by rw [HM.out]; exact hm0)
      have h2 := small_two (b := b) (ls := ls') (by rw [HM.out]; exact hm0)
      rw [HM.out, hi, Int.toNat_natCast] at hp
      have hph := SH.out.ph
      obtain ⟨m, hm⟩ : ∃ m, gk = m + 1 := ⟨gk - 1, by omega⟩
      have t3 : decide ((0 : Int) ≤ M) = true := decide_eq_true hm0
      have t4 : decide (M ≥ 0) = true := decide_eq_true hm0
      have HP := hid hp
      have HI := hid hi
      have HMM := hid hm
      have HG0 := hid hg0
      have H2 := hid h2
      clear hp hi hg0 hph hm hm0 h2
      go_wp2
      refine wp_region_ext (Below.refl _ _) (by kernel_rfl) (by kernel_rfl) ?_
      repeat (go_big_quiet_step (first | (with_reducible exact great_ext HG HN' HL6.out HROW.out) | (with_reducible exact small_ext HM HN' HL6.out HROW.out)))
      refine wpQuiet_nil ?_
      rintro _ ⟨⟨w9, hb9⟩, rfl⟩
      have hown9 := SH.out.own.ext hb9
      obtain ⟨g, cap, he, hcap⟩ := SH.out.own.lit (by have := H2.out; omega)
      rw [HN'.out] at he
      have C1 := hid (join_any (k := i) HN' (by rw [← he]; exact hown9) (by have := HBR.out; have := hb9.size; omega) (by have := HP.out.2.2.2; have := HN'.out; omega) (by have := H2.out; have := HN'.out; omega) (by have := SH.out.tot; omega) HL6.out hcap)
      rw [← he, ← HI.out] at C1
      have HB9 := hid hb9
      clear hown9 he hb9 hcap
      go_wp2_with fail
      (with_reducible refine C1.out.mono ?_)
      rintro e w2 ⟨v2, cs2, rfl, hs2, hk2⟩
      go_wp2
      go_roundg m
      case measure => have := HMM.out; omega
      case rel =>
        obtain ⟨p1, p2, p3, p4⟩ := HP.out
        exact ⟨cs2, _, hs2, p2, by rw [perm_total p3]; exact SH.out.tot, by have := SH.out.ph; have := HMM.out; omega, by rw [SH.out.eq, HMM.out, fitN_join (by have := HG.out; have := HG0.out; omega) (HM.out.trans HI.out)], (SH.out.kp.ext HB9.out).trans hk2⟩
    · have t3 : decide ((0 : Int) ≤ M) = false := decide_eq_false hm0
      have t4 : decide (M ≥ 0) = false := decide_eq_false hm0
      have HG0 := hid hg0
      have HM0 := hid hm0
      clear hg0 hm0
      go_wp2
      refine wp_region_ext (Below.refl _ _) (by kernel_rfl) (by kernel_rfl) ?_
      repeat (go_big_quiet_step (first | (with_reducible exact great_ext HG HN' HL6.out HROW.out) | (with_reducible exact small_ext HM HN' HL6.out HROW.out)))
      refine wpQuiet_nil ?_
      rintro _ ⟨⟨w9, hb9⟩, rfl⟩
      have hown9 := SH.out.own.ext hb9
      have HB9 := hid hb9
      have HO9 := hid hown9
      clear hb9 hown9
      go_wp2
      try rw [Exit.noGoto_ret]
      go_ret
      refine ⟨_, cs', rfl, ?_, ?_⟩
      · have : fitV b ls = ls' := by
          unfold fitV
          rw [SH.out.eq, fitN_stop (by have := HG.out; have := HG0.out; omega) (by have := HM.out; have := HM0.out; omega)]
        rw [this]; exact HO9.out
      · have k1 := SH.out.kp.ext HB9.out
        refine ⟨(Mut.of_below HB1.out).trans k1.mt, fun q hq => (k1.blk q hq).imp id fun e => by have := HSZ.out; omega⟩
end Go.Proofs.Ytbpfhclcjedkcaa

/- The contract of slices.SortFunc at this program: the numbers, and a field a fact. Printed by the kit. -/
namespace Go.Proofs
open Go.Shelf
def Try.sortLeaf_ren : Go.Shelf.Ren := ⟨fun | 6 => 240 | 15 => 235 | 14 => 255 | 28 => 253 | 29 => 254 | 20 => 262 | 21 => 263 | 22 => 264 | 23 => 265 | 24 => 266 | 25 => 267 | 26 => 268 | 27 => 269 | 46 => 271 | 47 => 258 | 48 => 259 | 49 => 272 | 50 => 273 | 57 => 274 | n => n, fun | 22 => 31 | 24 => 30 | 25 => 271 | 3 => 3 | 39 => 142 | 0 => 0 | 53 => 24 | 55 => 29 | 4 => 4 | 46 => 275 | 45 => 274 | 50 => 224 | 5 => 5 | 9 => 9 | 66 => 283 | 70 => 285 | 76 => 292 | 77 => 293 | n => n, fun | n => n⟩
theorem Try.sortLeaf : Go.Proofs.SlLaysF.n6 Try.prog Try.sortLeaf_ren := {
  mixed := by kernel_rfl
  f6 := ⟨Try.f240.name, by decide, Try.func240.trans (congrArg some (by kernel_rfl))⟩
  f14 := ⟨Try.f255.name, by decide, Try.func255.trans (congrArg some (by kernel_rfl))⟩
  f15 := Try.func235.trans (congrArg some (by kernel_rfl))
  f20 := ⟨Try.f262.name, by decide, Try.func262.trans (congrArg some (by kernel_rfl))⟩
  f21 := ⟨Try.f263.name, by decide, Try.func263.trans (congrArg some (by kernel_rfl))⟩
  f22 := ⟨Try.f264.name, by decide, Try.func264.trans (congrArg some (by kernel_rfl))⟩
  f23 := ⟨Try.f265.name, by decide, Try.func265.trans (congrArg some (by kernel_rfl))⟩
  f24 := ⟨Try.f266.name, by decide, Try.func266.trans (congrArg some (by kernel_rfl))⟩
  f25 := ⟨Try.f267.name, by decide, Try.func267.trans (congrArg some (by kernel_rfl))⟩
  f26 := ⟨Try.f268.name, by decide, Try.func268.trans (congrArg some (by kernel_rfl))⟩
  f27 := ⟨Try.f269.name, by decide, Try.func269.trans (congrArg some (by kernel_rfl))⟩
  f28 := Try.func253.trans (congrArg some (by kernel_rfl))
  f29 := Try.func254.trans (congrArg some (by kernel_rfl))
  f46 := ⟨Try.f271.name, by decide, Try.func271.trans (congrArg some (by kernel_rfl))⟩
  f47 := Try.func258.trans (congrArg some (by kernel_rfl))
  f48 := Try.func259.trans (congrArg some (by kernel_rfl))
  f49 := ⟨Try.f272.name, by decide, Try.func272.trans (congrArg some (by kernel_rfl))⟩
  f50 := ⟨Try.f273.name, by decide, Try.func273.trans (congrArg some (by kernel_rfl))⟩
  f57 := ⟨Try.f274.name, by decide, Try.func274.trans (congrArg some (by kernel_rfl))⟩
  t0 := Try.underlying0
  a0 := Try.isAgg0
  z0 := Try.sizeOf0
  v0 := Try.zeroValue0
  t3 := Try.underlying3
  a3 := Try.isAgg3
  z3 := Try.sizeOf3
  v3 := Try.zeroValue3
  t4 := Try.underlying4
  a4 := Try.isAgg4
  z4 := Try.sizeOf4
  v4 := Try.zeroValue4
  t5 := Try.underlying5
  a5 := Try.isAgg5
  z5 := Try.sizeOf5
  v5 := Try.zeroValue5
  t9 := Try.underlying9
  a9 := Try.isAgg9
  z9 := Try.sizeOf9
  v9 := Try.zeroValue9
  t22 := Try.underlying31
  a22 := Try.isAgg31
  z22 := Try.sizeOf31
  v22 := Try.zeroValue31
  a24 := Try.isAgg30
  z24 := Try.sizeOf30
  t25 := Try.underlying271
  a25 := Try.isAgg271
  z25 := Try.sizeOf271
  v25 := Try.zeroValue271
  t39 := Try.underlying142
  a39 := Try.isAgg142
  z39 := Try.sizeOf142
  v39 := Try.zeroValue142
  t45 := Try.underlying274
  a45 := Try.isAgg274
  z45 := Try.sizeOf274
  v45 := Try.zeroValue274
  t46 := Try.underlying275
  a46 := Try.isAgg275
  z46 := Try.sizeOf275
  v46 := Try.zeroValue275
  t50 := Try.underlying224
  a50 := Try.isAgg224
  z50 := Try.sizeOf224
  v50 := Try.zeroValue224
  t53 := Try.underlying24
  a53 := Try.isAgg24
  z53 := Try.sizeOf24
  v53 := Try.zeroValue24
  t55 := Try.underlying29
  a55 := Try.isAgg29
  z55 := Try.sizeOf29
  v55 := Try.zeroValue29
  t66 := Try.underlying283
  a66 := Try.isAgg283
  z66 := Try.sizeOf283
  v66 := Try.zeroValue283
  t70 := Try.underlying285
  a70 := Try.isAgg285
  z70 := Try.sizeOf285
  v70 := Try.zeroValue285
  t76 := Try.underlying292
  a76 := Try.isAgg292
  z76 := Try.sizeOf292
  v76 := Try.zeroValue292
  t77 := Try.underlying293
  a77 := Try.isAgg293
  z77 := Try.sizeOf293
  v77 := Try.zeroValue293 }
end Go.Proofs


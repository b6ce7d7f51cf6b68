/- Parts of the proof: X34 X35 X50 X91. -/
import Derived.Deep.DeepCutAuto
import Derived.Test.YtbpfhclcjedkcaaLa14
import Derived.Test.YtbpfhclcjedkcaaLa5
import Derived.Test.YtbpfhclcjedkcaaLa6
namespace Go.Proofs.Ytbpfhclcjedkcaa
open Go.RowKit

/-! ### slices.Clone -/
theorem PidRow.nilA {w : World} {xs : List Pid} (h : PidRow w none xs) : xs = [] := by
  rcases h with h | ⟨b, off, h, _⟩
  · exact h
  · cases h
set_option maxRecDepth 100000 in
set_option maxHeartbeats 800000 in
theorem clone_any {a : Option Addr} {c : Nat} {xs : List Pid} {w : World} (hn : xs.length ≤ 549755813888) (hrow : PidRow w a xs) :
   Calls Try.prog 80 #[.slice a xs.length c] w fun e w' => ∃ v, e = .returned v ∧ OwnP w' w.heap.size v xs ∧ Below w.heap.size w w' := by
  cases a with
  | none =>
    have hx := hrow.nilA
    subst hx
    have hnil : ∀ W, (binOp .eql 30 (.slice none 0 c) (.slice none 0 0)).run Try.prog W = .ok (.bool true) W := fun W => Lib.run_eql_slice_nil W 30 26 none 0 c 0 0 Try.underlying30
    go_enter Try.func80, Try.ntmps80
    go_wp2
    go_ret
    exact ⟨_, rfl, OwnP.nil _ _, Below.refl _ _⟩
  | some a =>
    have hnil : ∀ W, (binOp .eql 30 (.slice (some a) xs.length c) (.slice none 0 0)).run Try.prog W = .ok (.bool false) W := fun W => Lib.run_eql_slice_nil W 30 26 (some a) xs.length c 0 0 Try.underlying30
    have hown : OwnP (w.alloc (.cells #[] 26)) w.heap.size (.slice (some ⟨w.heap.size, 0, none⟩) 0 0) [] := World.ownsRow_made (w := w) #[] 0 (Nat.le_refl _) (by unfold maxLen; omega) (by simp)
    have hB : Below w.heap.size w (w.alloc (.cells #[] 26)) := (Below.refl _ _).alloc (Nat.le_refl _) _
    have hr1 := hrow.ext hB
    go_enter Try.func80, Try.ntmps80
    go_wp2_with (at_builtin; refine wpList_appendP hown hr1 ?cb ?cz rfl rfl rfl rfl ?_; rotate_right; intro v4 w4 hown4 hg4 hnil4)
    case cb => simp; omega
    case cz => simp
    go_ret
    exact ⟨v4, rfl, hown4, hB.grown hg4 hB.size (fun g hg => (World.ownsRow.lt hown g hg).1)⟩
theorem clone_is {a : Option Addr} {c n : Nat} {xs : List Pid} {w : World} (hn : Hid (xs.length = n)) (hl : n ≤ 549755813888) (hrow : PidRow w a xs) :
   Calls Try.prog 80 #[.slice a n c] w fun e w' => ∃ v, e = .returned v ∧ OwnP w' w.heap.size v xs ∧ Below w.heap.size w w' := by
  have hn := hn.out; subst hn
  exact clone_any hl hrow
end Go.Proofs.Ytbpfhclcjedkcaa

namespace Go.Proofs.Ytbpfhclcjedkcaa
open Go.RowKit

/-! ### view.Copy -/
theorem OwnP.put4 {w : World} {base b : Nat} {v : Value} {xs : List Pid} {u0 u1 u2 u3 : Value} (h : OwnP w base v xs) (hb : ∀ g, v.ownBlock = some g → g ≠ b) : OwnP ((((w.setCell ⟨b, 0, none⟩ u0).setCell ⟨b, 1, none⟩ u1).setCell ⟨b, 2, none⟩ u2).setCell ⟨b, 3, none⟩ u3) base v xs :=
  h.mutN (mutV w b u0 u1 u2 u3) (fun g hg e => hb g hg e)
theorem below_put4 {B : Nat} {w W : World} {b : Nat} {u0 u1 u2 u3 : Value} (h : Below B w W) (hb : B ≤ b) : Below B w ((((W.setCell ⟨b, 0, none⟩ u0).setCell ⟨b, 1, none⟩ u1).setCell ⟨b, 2, none⟩ u2).setCell ⟨b, 3, none⟩ u3) :=
  below_set (below_set (below_set (below_set h hb) hb) hb) hb
/-- the copy in its box, without its leaves -/
structure CopyS (W2 wx : World) (b3 : Nat) (i : Int) (vm vd : Value) (V : View) : Prop where
  bx : BoxV wx b3 (.int .u64 i) vm (.slice none 0 0) vd
  om : OwnP wx W2.heap.size vm V.ms
  od : OwnP wx W2.heap.size vd V.ds
  nm : ∀ g, vm.ownBlock = some g → g ≠ b3
  nd : ∀ g, vd.ownBlock = some g → g ≠ b3
  nn : ∀ g, vm.ownBlock = some g → vd.ownBlock ≠ some g
  le : W2.heap.size ≤ b3
  b : Below W2.heap.size W2 wx
theorem CopyS.of {W2 w7 : World} {b3 : Nat} {i : Int} {vm vd z0 z1 z2 z3 : Value} {V : View} (bx : BoxV w7 b3 z0 z1 z2 z3) (om : OwnP w7 W2.heap.size vm V.ms) (od : OwnP w7 W2.heap.size vd V.ds) (nm : ∀ g, vm.ownBlock = some g → g ≠ b3) (nd : ∀ g, vd.ownBlock = some g → g ≠ b3) (nn : ∀ g, vm.ownBlock = some g → vd.ownBlock ≠ some g) (le : W2.heap.size ≤ b3) (b : Below W2.heap.size W2 w7) :
    CopyS W2 ((((w7.setCell ⟨b3, 0, none⟩ (.int .u64 i)).setCell ⟨b3, 1, none⟩ vm).setCell ⟨b3, 2, none⟩ (.slice none 0 0)).setCell ⟨b3, 3, none⟩ vd) b3 i vm vd V :=
  ⟨bx.put _ _ _ _, om.put4 nm, od.put4 nd, nm, nd, nn, le, below_put4 b le⟩
theorem CopyS.made {W2 w7 : World} {i : Int} {vm vd : Value} {V : View} (om : OwnP w7 W2.heap.size vm V.ms) (od : OwnP w7 W2.heap.size vd V.ds) (nn : ∀ g, vm.ownBlock = some g → vd.ownBlock ≠ some g) (b : Below W2.heap.size W2 w7) :
    CopyS W2 (w7.alloc (.cells #[.int .u64 i, vm, .slice none 0 0, vd] 33)) w7.heap.size i vm vd V :=
  ⟨BoxV.made _ _ _ _ _ _, om.ext ((Below.refl _ _).alloc (Nat.le_refl _) _), od.ext ((Below.refl _ _).alloc (Nat.le_refl _) _), fun g hg e => by have := (om.blk hg).2; omega, fun g hg e => by have := (od.blk hg).2; omega, nn, b.size, b.alloc b.size _⟩

end Go.Proofs.Ytbpfhclcjedkcaa

namespace Go.Proofs.Ytbpfhclcjedkcaa
open Go.RowKit

/-! ### local views -/
theorem atFrom_skip {p : Pid} : ∀ {pre suf : List Pid} {k : Nat}, p ∉ pre → atFrom p (pre ++ p :: suf) k = ((k + pre.length : Nat) : Int)
  | [], suf, k, _ => by simp [atFrom]
  | q :: r, suf, k, h => by
    simp only [List.mem_cons, not_or] at h
    simp only [List.cons_append, atFrom]
    rw [if_neg (fun e => h.1 e.symm), atFrom_skip h.2]
    simp; omega
/-- rows that stay where only blocks below base change -/
def Stab (base : Nat) (w : World) (am al ad : Option Addr) (V : View) : Prop := ∀ G : Nat → Prop, (∀ k, G k → k < base) → ∀ W', Mut G w W' → ViewR W' am al ad V
theorem Stab.r {base : Nat} {w : World} {am al ad : Option Addr} {V : View} (h : Stab base w am al ad V) : ViewR w am al ad V := h (fun _ => False) (fun _ e => e.elim) w (Mut.refl _ _)
theorem Stab.ext {base : Nat} {w w' : World} {am al ad : Option Addr} {V : View} (h : Stab base w am al ad V) (hb : Below w.heap.size w w') : Stab base w' am al ad V := fun G hG W' hm => h G hG W' ((Mut.of_below hb).trans hm)
theorem Stab.zero (base : Nat) (w : World) : Stab base w none none none zeroV := fun _ _ W' _ => ⟨.inl rfl, .inl rfl, .inl rfl, by simp [zeroV], by simp [zeroV], by simp [zeroV], by simp [zeroV]⟩
end Go.Proofs.Ytbpfhclcjedkcaa

namespace Go.Proofs.Ytbpfhclcjedkcaa
open Go.RowKit
/-! ### leaves in the members' order, and the leaders, in plain words -/
def keyL (ms : List Pid) (l : List Pid) : Nat := ms.findIdx fun p => decide (p ∈ l)
def ordR (ms : List Pid) (ls : LL) : LL := (List.range ms.length).flatMap fun i => (ls.filter fun l => decide (keyL ms l = i)).map (commonP ms)
def hdIx (ms : List Pid) (l : List Pid) : Int := atIx ms (l.headD (0, 0))
/-- leaves that part the members -/
structure Parts (ms : List Pid) (ls : LL) : Prop where
  nd : ms.Nodup
  full : Full ls
  perm : ls.flatten.Perm ms
theorem Parts.hit {ms : List Pid} {ls : LL} (h : Parts ms ls) {l : List Pid} (hl : l ∈ ls) : ∃ p ∈ ms, p ∈ l := by
  obtain ⟨p, hp⟩ := List.exists_mem_of_ne_nil l (h.full l hl)
  exact ⟨p, h.perm.mem_iff.1 (List.mem_flatten.2 ⟨l, hl, hp⟩), hp⟩
theorem Parts.key_lt {ms : List Pid} {ls : LL} (h : Parts ms ls) {l : List Pid} (hl : l ∈ ls) : keyL ms l < ms.length := by
  obtain ⟨p, h1, h2⟩ := h.hit hl
  exact List.findIdx_lt_length_of_exists ⟨p, h1, by simpa using h2⟩
theorem Parts.key_mem {ms : List Pid} {ls : LL} (h : Parts ms ls) {l : List Pid} (hl : l ∈ ls) : ms[keyL ms l]'(h.key_lt hl) ∈ l := by
  have := List.findIdx_getElem (w := h.key_lt hl)
  exact of_decide_eq_true this
theorem key_min {ms l : List Pid} {j : Nat} (h : j < keyL ms l) (hj : j < ms.length) : ms[j] ∉ l := by
  have := List.not_of_lt_findIdx h
  simpa using this
theorem Parts.keys {ms : List Pid} {ls : LL} (h : Parts ms ls) : ls.Pairwise fun a b => keyL ms a ≠ keyL ms b := by
  have h1 : ls.flatten.Nodup := h.perm.nodup_iff.2 h.nd
  have h2 := (List.pairwise_flatten.1 h1).2
  refine List.Pairwise.imp_of_mem ?_ h2
  intro a b ha hb hab hk
  have ka := h.key_mem ha
  have kb := h.key_mem hb
  have e : ms[keyL ms a]'(h.key_lt ha) = ms[keyL ms b]'(h.key_lt hb) := by simp only [hk]
  rw [e] at ka
  exact hab _ ka _ kb rfl
theorem pairwise_inj {α β : Type} {f : α → β} : ∀ {l : List α}, l.Pairwise (fun a b => f a ≠ f b) → ∀ a ∈ l, ∀ b ∈ l, f a = f b → a = b
  | [], _, a, ha, _, _, _ => by cases ha
  | x :: r, h, a, ha, b, hb, e => by
    obtain ⟨h1, h2⟩ := List.pairwise_cons.1 h
    rcases List.mem_cons.1 ha with e1 | ha2 <;> rcases List.mem_cons.1 hb with e2 | hb2
    · rw [e1, e2]
    · rw [e1] at e; exact absurd e (h1 b hb2)
    · rw [e2] at e; exact absurd e.symm (h1 a ha2)
    · exact pairwise_inj h2 a ha2 b hb2 e
theorem atIx_nd {ms : List Pid} (h : ms.Nodup) {k : Nat} (hk : k < ms.length) : atIx ms ms[k] = (k : Int) := by
  have e : ms = ms.take k ++ ms[k] :: ms.drop (k + 1) := by rw [List.getElem_cons_drop, List.take_append_drop]
  have hn : ms[k] ∉ ms.take k := by
    intro hm
    rw [e] at h
    have := (List.nodup_append.1 h).2.2 _ hm _ (List.mem_cons_self ..)
    exact this rfl
  unfold atIx
  have := atFrom_skip (p := ms[k]) (pre := ms.take k) (suf := ms.drop (k + 1)) (k := 0) hn
  rw [← e] at this
  rw [this]
  simp; omega
theorem Parts.head {ms : List Pid} {ls : LL} (h : Parts ms ls) {l : List Pid} (hl : l ∈ ls) : (commonP ms l).head? = some (ms[keyL ms l]'(h.key_lt hl)) := by
  unfold commonP
  rw [List.head?_filter, List.find?_eq_some_iff_getElem]
  refine ⟨by simpa using h.key_mem hl, keyL ms l, h.key_lt hl, rfl, fun j hj => ?_⟩
  have := key_min (l := l) hj (by have := h.key_lt hl; omega)
  simpa using this
theorem Parts.hdIx {ms : List Pid} {ls : LL} (h : Parts ms ls) {l : List Pid} (hl : l ∈ ls) : hdIx ms (commonP ms l) = (keyL ms l : Int) := by
  unfold Go.Proofs.Ytbpfhclcjedkcaa.hdIx
  rw [List.headD_eq_head?_getD, h.head hl, Option.getD_some]
  exact atIx_nd h.nd _
theorem sum_ind (k c : Nat) : ∀ n : Nat, ((List.range n).map fun i => if k = i then c else 0).sum = if k < n then c else 0
  | 0 => by simp
  | n + 1 => by
    rw [List.range_succ, List.map_append, List.sum_append, sum_ind k c n]
    simp only [List.map_cons, List.map_nil, List.sum_cons, List.sum_nil]
    by_cases h1 : k < n
    · rw [if_pos h1, if_neg (by omega), if_pos (by omega)]; omega
    · rw [if_neg h1]
      by_cases h2 : k = n
      · rw [if_pos h2, if_pos (by omega)]; omega
      · rw [if_neg h2, if_neg (by omega)]; rfl
theorem flat_filter_perm {α : Type} [DecidableEq α] (f : α → Nat) (n : Nat) (l : List α) (h : ∀ a ∈ l, f a < n) : ((List.range n).flatMap fun i => l.filter fun a => decide (f a = i)).Perm l := by
  rw [List.perm_iff_count]
  intro a
  by_cases ha : a ∈ l
  · rw [List.count_flatMap]
    have e : (List.range n).map (List.count a ∘ fun i => l.filter fun a => decide (f a = i)) = (List.range n).map fun i => if f a = i then l.count a else 0 := by
      refine List.map_congr_left fun i _ => ?_
      simp only [Function.comp]
      by_cases hi : f a = i
      · rw [if_pos hi, List.count_filter (by simpa using hi)]
      · rw [if_neg hi, List.count_eq_zero]
        simp [hi]
    rw [e, sum_ind, if_pos (h a ha)]
  · rw [List.count_eq_zero.2 ha, List.count_eq_zero]
    intro hm
    obtain ⟨i, -, hi⟩ := List.mem_flatMap.1 hm
    exact ha (List.mem_filter.1 hi).1
theorem Parts.ord_perm {ms : List Pid} {ls : LL} (h : Parts ms ls) : (ordR ms ls).Perm (ls.map (commonP ms)) := by
  have := (flat_filter_perm (keyL ms) ms.length ls fun a ha => h.key_lt ha).map (commonP ms)
  unfold ordR
  rwa [List.map_flatMap] at this
theorem Parts.ord_sorted {ms : List Pid} {ls : LL} (h : Parts ms ls) : (ordR ms ls).Pairwise fun a b => Go.Proofs.Ytbpfhclcjedkcaa.hdIx ms a ≤ Go.Proofs.Ytbpfhclcjedkcaa.hdIx ms b := by
  have hk : ∀ i, ∀ a ∈ (ls.filter fun l => decide (keyL ms l = i)).map (commonP ms), Go.Proofs.Ytbpfhclcjedkcaa.hdIx ms a = (i : Int) := by
    intro i a ha
    obtain ⟨l, hl, rfl⟩ := List.mem_map.1 ha
    obtain ⟨h1, h2⟩ := List.mem_filter.1 hl
    rw [h.hdIx h1]
    have : keyL ms l = i := by simpa using h2
    rw [this]
  unfold ordR
  rw [List.pairwise_flatMap]
  refine ⟨fun i _ => ?_, ?_⟩
  · refine List.Pairwise.imp_of_mem (R := fun _ _ => True) ?_ (List.pairwise_of_forall fun _ _ => trivial)
    intro a b ha hb _
    rw [hk i a ha, hk i b hb]; exact Int.le_refl _
  · refine List.Pairwise.imp ?_ List.pairwise_lt_range
    intro i j hij a ha b hb
    rw [hk i a ha, hk j b hb]; omega
/-- what is sorted by the first one's place is the reference's order -/
theorem Parts.ord_eq {ms : List Pid} {ls : LL} (h : Parts ms ls) {cs : LL} (hp : cs.Perm (ls.map (commonP ms))) (hs : cs.Pairwise fun a b => Go.Proofs.Ytbpfhclcjedkcaa.hdIx ms a ≤ Go.Proofs.Ytbpfhclcjedkcaa.hdIx ms b) : cs = ordR ms ls := by
  refine List.Perm.eq_of_pairwise (le := fun a b => Go.Proofs.Ytbpfhclcjedkcaa.hdIx ms a ≤ Go.Proofs.Ytbpfhclcjedkcaa.hdIx ms b) ?_ hs h.ord_sorted (hp.trans h.ord_perm.symm)
  intro a b ha hb h1 h2
  have ha := hp.mem_iff.1 ha
  have hb := h.ord_perm.mem_iff.1 hb
  obtain ⟨l, hl, rfl⟩ := List.mem_map.1 ha
  obtain ⟨m, hm, rfl⟩ := List.mem_map.1 hb
  rw [h.hdIx hl, h.hdIx hm] at h1 h2
  have := pairwise_inj h.keys l hl m hm (by omega)
  rw [this]
/-! the leaders -/
def leadStep (S : List Pid) (p : Pid) : List Pid := if 3 ≤ S.length then S else if p ∈ S then S else S ++ [p]
def leadS (ms : List Pid) (S : List Pid) : List Pid := ms.foldl leadStep S
theorem leadS_full : ∀ (ms : List Pid) {S : List Pid}, 3 ≤ S.length → leadS ms S = S
  | [], _, _ => rfl
  | p :: r, S, h => by
    show leadS r (leadStep S p) = S
    have e : leadStep S p = S := by unfold leadStep; rw [if_pos h]
    rw [e]; exact leadS_full r h
/-- of leaves, the first ones; then members till there are three -/
def leadersL (ms : List Pid) (heads : List Pid) : List Pid := ms.filter fun p => decide (p ∈ leadS ms heads)
end Go.Proofs.Ytbpfhclcjedkcaa


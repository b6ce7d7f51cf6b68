/- Parts of the proof: R4 R5 P1 L2 X1 X2 X5a X7 X8 X17 X5 X6 X21 X22 XO ShelfT Y1 Y2 Y3 Z1 O1 O2 O3 O4 O5 OA OB NA. -/
import Derived.Laws.MakeOwn
import Derived.Laws.CopyOwn
import Derived.Maps.AppendAt
import Derived.Laws.BitsAllLaws
import Derived.Deep.RegionWith
import Derived.Lib.Bytes
import Derived.Deep.Slices
import Derived.Lib.SmallJoins
import Derived.SizedLaws
import Derived.Shelf.Strings.Builder1
import Derived.Shelf.Strconv.Itoa3
import Derived.Shelf.Strconv.Itoa2
import Derived.Shelf.Small.Wraps
import Derived.Shelf.Small.Strs
import Derived.Shelf.Strings.Split
import Derived.Shelf.Strings.Prefix
import Derived.Shelf.Strconv.AtoiAll
import Derived.Shelf.Strconv.ErrVarAll
import Derived.Lib.ItoaNum
import Derived.Lib.IndexMore
import Derived.Lib.ParseIntBCases
import Derived.Shelf.Strconv.Itoa1
import Derived.Lib.ItoaMem
import Derived.Lib.AppendIntMem
import Derived.Lib.ItoaWalk
import Derived.Lib.Walk
import Derived.BigCall
import Derived.BigGuard
import Derived.Laws.BytesString
import Derived.Lib.SplitLaws
import Derived.Lib.AtoiAllCases
import Derived.Lib.AtoiBound
import Derived.Test.YtehagnbphamjhaaGreatDoorR2
namespace Go.Proofs.YtehagnbphamjhaaGreatDoor
open Go.RowKit
set_option maxRecDepth 100000 in
set_option maxHeartbeats 800000 in
theorem leaf_any (V : View) (am al ad : Option Addr) (cm cl cd : Nat) (x y : Int) (w : World) (hV : ViewR w am al ad V) :
   Calls Tryz.prog 324 #[.agg #[.int .u64 V.id, .slice am V.ms.length cm, .slice al V.ls.length cl, .slice ad V.ds.length cd], .agg #[.int .u16 x, .int .u32 y]] w fun e w' => e = .returned (.int .i64 (leafIx V.ls (x, y))) ∧ Below w.heap.size w w' := by
  have hB2 : Below w.heap.size w ((w.alloc (.cells #[.int .u64 V.id, .slice am V.ms.length cm, .slice al V.ls.length cl, .slice ad V.ds.length cd] 54)).alloc (.cells #[.int .u16 x, .int .u32 y] 46)) := ((Below.refl _ _).alloc (Nat.le_refl _) _).alloc (by simp) _
  have hV2 := hV.ext hB2
  have k0 : ((w.alloc (.cells #[.int .u64 V.id, .slice am V.ms.length cm, .slice al V.ls.length cl, .slice ad V.ds.length cd] 54)).alloc (.cells #[.int .u16 x, .int .u32 y] 46)).cell? ⟨w.heap.size + 1, 0, none⟩ = some (.int .u16 x) := by simp
  have k1 : ((w.alloc (.cells #[.int .u64 V.id, .slice am V.ms.length cm, .slice al V.ls.length cl, .slice ad V.ds.length cd] 54)).alloc (.cells #[.int .u16 x, .int .u32 y] 46)).cell? ⟨w.heap.size + 1, 1, none⟩ = some (.int .u32 y) := by simp
  go_enter Tryz.func324, Tryz.ntmps324
  go_wp2_with (go_at_call 347; go_loud (refine (indexFunc_any _ _ _ _ _ _ _ hV.ll hV.le hV2.ls k0 k1).mono ?_); rintro e w3 ⟨rfl, hb3⟩)
  go_ret
  exact ⟨rfl, hB2.trans (hb3.mono (by simp; omega))⟩

theorem PidRow.two (w : World) (x1 y1 x2 y2 : Int) : PidRow (w.alloc (.cells #[.int .u16 x1, .int .u32 y1, .int .u16 x2, .int .u32 y2] 46)) (some ⟨w.heap.size, 0, none⟩) [(x1, y1), (x2, y2)] :=
  .inr ⟨_, 0, rfl, by simp, fun i hi => by
    match i, hi with
    | 0, _ => exact ⟨by simp, by simp⟩
    | 1, _ => exact ⟨by simp, by simp⟩⟩
theorem PidRow.three (w : World) (x1 y1 x2 y2 x3 y3 : Int) : PidRow (w.alloc (.cells #[.int .u16 x1, .int .u32 y1, .int .u16 x2, .int .u32 y2, .int .u16 x3, .int .u32 y3] 46)) (some ⟨w.heap.size, 0, none⟩) [(x1, y1), (x2, y2), (x3, y3)] :=
  .inr ⟨_, 0, rfl, by simp, fun i hi => by
    match i, hi with
    | 0, _ => exact ⟨by simp, by simp⟩
    | 1, _ => exact ⟨by simp, by simp⟩
    | 2, _ => exact ⟨by simp, by simp⟩⟩
theorem PidRow.one' (w : World) {b : Nat} (h : b = w.heap.size) (x y : Int) : PidRow (w.alloc (.cells #[.int .u16 x, .int .u32 y] 46)) (some ⟨b, 0, none⟩) [(x, y)] := by subst h; exact PidRow.one _ _ _
theorem LeafRow.alloc {w : World} {a : Option Addr} {xs : List (List Pid)} (h : LeafRow w a xs) (o : Obj) : LeafRow (w.alloc o) a xs := h.ext ((Below.refl _ _).alloc (Nat.le_refl _) _)
theorem PidRow.alloc {w : World} {a : Option Addr} {xs : List Pid} (h : PidRow w a xs) (o : Obj) : PidRow (w.alloc o) a xs := h.ext ((Below.refl _ _).alloc (Nat.le_refl _) _)

end Go.Proofs.YtehagnbphamjhaaGreatDoor

namespace Go.Proofs.YtehagnbphamjhaaGreatDoor
open Go.RowKit

theorem rel {P : Program} {f : FuncId} {args : Array Value} {w0 W : World} {v v' : Value} (hb : Below w0.heap.size w0 W) (h : Calls P f args W fun e w' => e = .returned v ∧ Below W.heap.size W w') (hv : v = v') :
    Calls P f args W fun e w' => e = .returned v' ∧ Below w0.heap.size w0 w' := by
  subst hv
  exact h.mono fun _ _ ⟨h1, h2⟩ => ⟨h1, hb.trans (h2.mono hb.size)⟩

end Go.Proofs.YtehagnbphamjhaaGreatDoor

namespace Go.Proofs.YtehagnbphamjhaaGreatDoor

/-! ## the plain law: view.Check answers as the document says -/
def keys {α β : Type} (L : List (α × β)) : List α := L.map (·.1)
theorem look_isSome {α β : Type} [DecidableEq α] {x : α} : ∀ {L : List (α × β)}, (look x L).isSome = true ↔ x ∈ keys L
  | [] => by simp [look, keys]
  | p :: l => by
    have ih := look_isSome (x := x) (L := l)
    have e : look x (p :: l) = if x = p.1 then some p.2 else look x l := rfl
    have ek : keys (p :: l) = p.1 :: keys l := rfl
    rw [e, ek, List.mem_cons, ← ih]
    by_cases h : x = p.1 <;> simp [h]
theorem ins_len {α β : Type} [DecidableEq α] {x : α} {v : β} : ∀ {L : List (α × β)}, x ∉ keys L → ins x v L = L ++ [(x, v)]
  | [], _ => rfl
  | p :: l, h => by
    simp only [keys, List.map_cons, List.mem_cons, not_or] at h
    simp only [ins, if_neg h.1, List.cons_append]
    rw [ins_len h.2]
theorem look_ins {α β : Type} [DecidableEq α] {x y : α} {v : β} : ∀ {L : List (α × β)}, look x (ins y v L) = if x = y then some v else look x L
  | [] => by simp [ins, look]
  | p :: l => by
    have ih := look_ins (x := x) (y := y) (v := v) (L := l)
    simp only [ins]
    by_cases h : y = p.1
    · simp only [if_pos h, look]
      by_cases hx : x = y
      · simp [hx]
      · have : ¬ x = p.1 := fun e => hx (e.trans h.symm)
        simp [hx, this]
    · simp only [if_neg h, look, ih]
      by_cases hx : x = p.1
      · have : ¬ x = y := fun e => h (e.symm.trans hx)
        simp [hx]
        intro e; exact absurd (e.symm) (by intro e2; exact h (by rw [← e2]))
      · simp [hx]

theorem add1_of_mem {p : Pid} {L : List (Pid × Unit)} (h : p ∈ keys L) : add1 p L = L := by unfold add1; rw [if_pos (look_isSome.2 h)]
theorem add1_of_not {p : Pid} {L : List (Pid × Unit)} (h : p ∉ keys L) : add1 p L = L ++ [(p, ())] := by
  unfold add1; rw [if_neg (fun e => h (look_isSome.1 e)), ins_len h]
theorem unionL_len : ∀ (xs : List Pid) (L : List (Pid × Unit)), (unionL L xs).length ≤ L.length + xs.length ∧ ((unionL L xs).length = L.length + xs.length ↔ xs.Nodup ∧ ∀ x ∈ xs, x ∉ keys L)
  | [], L => by simp [unionL]
  | p :: l, L => by
    simp only [unionL]
    by_cases h : p ∈ keys L
    · obtain ⟨h1, h2⟩ := unionL_len l L
      rw [add1_of_mem h]
      refine ⟨by simp only [List.length_cons]; omega, ?_⟩
      constructor
      · intro e; simp only [List.length_cons] at e; omega
      · rintro ⟨_, h3⟩; exact absurd h (h3 p (List.mem_cons_self ..))
    · obtain ⟨h1, h2⟩ := unionL_len l (L ++ [(p, ())])
      rw [add1_of_not h]
      simp only [List.length_append, List.length_cons, List.length_nil] at h1 h2 ⊢
      refine ⟨by omega, ?_⟩
      have e : (unionL (L ++ [(p, ())]) l).length = L.length + (l.length + 1) ↔ (unionL (L ++ [(p, ())]) l).length = L.length + (0 + 1) + l.length := by omega
      rw [e, h2, List.nodup_cons]
      have hk : keys (L ++ [(p, ())]) = keys L ++ [p] := by simp [keys]
      rw [hk]
      simp only [List.mem_append, List.mem_cons, List.not_mem_nil, or_false, not_or]
      constructor
      · rintro ⟨a, b⟩
        exact ⟨⟨fun hp => (b p hp).2 rfl, a⟩, fun x hx => by
          rcases hx with rfl | hx
          · exact h
          · exact (b x hx).1⟩
      · rintro ⟨⟨a, b⟩, c⟩
        exact ⟨b, fun x hx => ⟨c x (.inr hx), fun e => a (e ▸ hx)⟩⟩
theorem unionL_nodup {xs : List Pid} : (unionL [] xs).length = xs.length ↔ xs.Nodup := by
  have := (unionL_len xs []).2
  simpa [keys] using this

theorem memFrom_iff {n : Nat} : ∀ {xs : List Pid} {S : List (Int × Unit)}, memFrom n S xs = true ↔ (0 < n ∧ n ≤ 24) ∧ (∀ p ∈ xs, mayB p = true) ∧ xs.Pairwise (fun p q => p.1 ≠ q.1) ∧ ∀ p ∈ xs, p.1 ∉ keys S
  | [], S => by simp [memFrom]
  | p :: l, S => by
    simp only [memFrom]
    by_cases h : p.1 ∈ keys S
    · rw [if_pos (look_isSome.2 h)]
      simp only [Bool.false_eq_true, false_iff]
      rintro ⟨_, _, _, h4⟩
      exact h4 p (List.mem_cons_self ..) h
    · rw [if_neg (fun e => h (look_isSome.1 e))]
      by_cases hm : mayB p = true
      · rw [if_pos hm, memFrom_iff, ins_len h]
        have hk : keys (S ++ [(p.1, ())]) = keys S ++ [p.1] := by simp [keys]
        rw [hk]
        simp only [List.mem_append, List.mem_cons, List.not_mem_nil, or_false, not_or, List.pairwise_cons, forall_eq_or_imp]
        constructor
        · rintro ⟨a, b, c, d⟩
          exact ⟨a, ⟨hm, b⟩, ⟨fun q hq e => (d q hq).2 e.symm, c⟩, h, fun q hq => (d q hq).1⟩
        · rintro ⟨a, ⟨_, b⟩, ⟨c, d⟩, _, e⟩
          exact ⟨a, b, d, fun q hq => ⟨e q hq, fun e2 => c q hq e2.symm⟩⟩
      · rw [if_neg hm]
        simp only [Bool.false_eq_true, false_iff]
        rintro ⟨_, b, _⟩
        exact hm (b p (List.mem_cons_self ..))

/-- the heads of the leaves -/
def heads : List (List Pid) → List Pid
  | [] => []
  | l :: r => l.head?.toList ++ heads r
theorem chkFrom_iff {S : List (Pid × Int)} {K : List Pid → Nat → Bool} : ∀ {ls : List (List Pid)} {F : List Pid} {n : Nat}, chkFrom S K F n ls = true ↔ (∀ l ∈ ls, l ≠ [] ∧ risFrom S (-1) l = true) ∧ K (F ++ heads ls) (n + lens ls) = true
  | [], F, n => by simp [chkFrom, heads, lens]
  | l :: r, F, n => by
    cases l with
    | nil => simp [chkFrom]
    | cons p l =>
      simp only [chkFrom]
      by_cases h : risFrom S (-1) (p :: l) = true
      · rw [if_pos h, chkFrom_iff]
        have e1 : F ++ [p] ++ heads r = F ++ heads ((p :: l) :: r) := by simp [heads]
        have e2 : n + (p :: l).length + lens r = n + lens ((p :: l) :: r) := by simp [lens]; omega
        rw [e1, e2]
        simp [h]
      · rw [if_neg h]; simp [h]
/-- the rank of p, if it is a member -/
def rankO (ms : List Pid) (p : Pid) : Option Int := if atIx ms p < 0 then none else some (atIx ms p)
theorem look_ranks {p : Pid} : ∀ {xs : List Pid} {S : List (Pid × Int)} {k : Nat}, look p (ranksFrom S xs k) = match look p S with | some v => some v | none => if atFrom p xs k < 0 then none else some (atFrom p xs k)
  | [], S, k => by
    simp only [ranksFrom, atFrom]
    cases look p S <;> simp
  | q :: l, S, k => by
    simp only [ranksFrom, atFrom]
    by_cases h : (look q S).isSome = true
    · rw [if_pos h, look_ranks]
      cases hp : look p S with
      | some v => rfl
      | none =>
        have : ¬ q = p := fun e => by subst e; rw [hp] at h; simp at h
        simp only [if_neg this]
    · rw [if_neg h, look_ranks, look_ins]
      by_cases hpq : p = q
      · subst hpq
        have : look p S = none := by simpa using h
        simp only [if_true, this]
        rw [if_neg (by omega)]
      · have : ¬ q = p := fun e => hpq e.symm
        simp only [if_neg hpq, if_neg this]
theorem look_ranksL {ms : List Pid} {p : Pid} : look p (ranksL ms) = rankO ms p := by
  unfold ranksL rankO atIx
  rw [look_ranks]
  rfl
/-! ### lists without repeats -/
theorem nodup_of_ids {ms : List Pid} (h : ms.Pairwise (fun p q => p.1 ≠ q.1)) : ms.Nodup := h.imp fun hne e => hne (by rw [e])
theorem nodup_len {l : List Pid} : ∀ {m : List Pid}, l.Nodup → (∀ x ∈ l, x ∈ m) → l.length ≤ m.length := by
  induction l with
  | nil => intro m _ _; simp
  | cons p l ih =>
    intro m hn hs
    rw [List.nodup_cons] at hn
    have hp := hs p (List.mem_cons_self ..)
    have h := ih (m := m.erase p) hn.2 (fun x hx => by
      have hne : x ≠ p := fun e => hn.1 (e ▸ hx)
      exact (List.mem_erase_of_ne hne).2 (hs x (List.mem_cons_of_mem _ hx)))
    rw [List.length_erase_of_mem hp] at h
    have := List.length_pos_of_mem hp
    simp only [List.length_cons]
    omega
theorem count_sum {l : List Pid} : ∀ {m : List Pid}, m.Nodup → (∀ x ∈ l, x ∈ m) → l.length = (m.map fun p => l.count p).sum := by
  induction l with
  | nil =>
    intro m _ _
    have : ∀ m : List Pid, (m.map fun p => ([] : List Pid).count p).sum = 0 := by
      intro m; induction m with
      | nil => rfl
      | cons a m ih => simp only [List.map_cons, List.sum_cons, ih]; simp
    rw [this]; rfl
  | cons q l ih =>
    intro m hm hs
    have h := ih hm (fun x hx => hs x (List.mem_cons_of_mem _ hx))
    have hq := hs q (List.mem_cons_self ..)
    have key : ∀ m : List Pid, m.Nodup → (m.map fun p => (q :: l).count p).sum = (m.map fun p => l.count p).sum + (if q ∈ m then 1 else 0) := by
      intro m
      induction m with
      | nil => intro _; simp
      | cons a m ihm =>
        intro hn
        rw [List.nodup_cons] at hn
        rw [List.map_cons, List.sum_cons, ihm hn.2, List.map_cons, List.sum_cons, List.count_cons]
        by_cases hqa : q = a
        · subst hqa
          simp only [beq_self_eq_true, if_true, if_neg hn.1, List.mem_cons, true_or]
          omega
        · have hb : (q == a) = false := by simpa using hqa
          simp only [hb, List.mem_cons, hqa, false_or, Bool.false_eq_true, if_false]
          omega
    rw [key m hm, if_pos hq, List.length_cons, h]
theorem sum_one : ∀ {m : List Pid} {f : Pid → Nat}, (∀ p ∈ m, f p = 1) → (m.map f).sum = m.length
  | [], _, _ => rfl
  | a :: m, f, h => by
    simp only [List.map_cons, List.sum_cons, List.length_cons, sum_one (fun p hp => h p (List.mem_cons_of_mem _ hp)), h a (List.mem_cons_self ..)]
    omega
/-- each member is met once, just if the lists have no repeat and as many elements as there are members -/
theorem count_iff {ms fl : List Pid} (hm : ms.Nodup) (hs : ∀ x ∈ fl, x ∈ ms) : (∀ p ∈ ms, fl.count p = 1) ↔ fl.length = ms.length ∧ fl.Nodup := by
  constructor
  · intro h
    refine ⟨by rw [count_sum hm hs, sum_one h], ?_⟩
    rw [List.nodup_iff_count]
    intro a
    by_cases ha : a ∈ fl
    · rw [h a (hs a ha)]; exact Nat.le_refl _
    · rw [List.count_eq_zero.2 ha]; omega
  · rintro ⟨hl, hn⟩ p hp
    have h1 := List.nodup_iff_count.1 hn p
    by_cases h0 : fl.count p = 0
    · exfalso
      have hnot : p ∉ fl := List.count_eq_zero.1 h0
      have := nodup_len (l := p :: fl) (m := ms) (List.nodup_cons.2 ⟨hnot, hn⟩) (fun x hx => by
        rcases List.mem_cons.1 hx with rfl | hx
        · exact hp
        · exact hs x hx)
      simp only [List.length_cons] at this
      omega
    · omega

def WfPids (l : List Pid) : Prop := ∀ p ∈ l, 0 ≤ p.1 ∧ p.1 < 65536 ∧ 0 ≤ p.2 ∧ p.2 < 4294967296
end Go.Proofs.YtehagnbphamjhaaGreatDoor

namespace Go.Proofs.YtehagnbphamjhaaGreatDoor
open Go.RowKit

section
variable (V : View) (am al ad : Option Addr) (cm cl cd : Nat) (x y : Int) (w : World)
set_option maxRecDepth 100000 in
set_option maxHeartbeats 800000 in
theorem leads_any (hV : ViewR w am al ad V) :
   Calls Tryz.prog 211 #[.agg #[.int .u64 V.id, .slice am V.ms.length cm, .slice al V.ls.length cl, .slice ad V.ds.length cd], .agg #[.int .u16 x, .int .u32 y]] w fun e w' => e = .returned (.bool (decide ((x, y) ∈ V.ds))) ∧ Below w.heap.size w w' := by
  have hB2 : Below w.heap.size w ((w.alloc (.cells #[.int .u64 V.id, .slice am V.ms.length cm, .slice al V.ls.length cl, .slice ad V.ds.length cd] 54)).alloc (.cells #[.int .u16 x, .int .u32 y] 46)) := ((Below.refl _ _).alloc (Nat.le_refl _) _).alloc (by simp) _
  have hV2 := hV.ext hB2
  go_enter Tryz.func211, Tryz.ntmps211
  go_wp2_with (go_at_call 139; refine (contains_any _ _ _ _ _ _ hV.ld hV2.ds).mono ?_; rintro e w3 ⟨rfl, hb3⟩)
  go_ret
  exact ⟨rfl, hB2.trans (hb3.mono (by simp; omega))⟩
set_option maxRecDepth 100000 in
set_option maxHeartbeats 800000 in
theorem hasView_any (hV : ViewR w am al ad V) :
   Calls Tryz.prog 104 #[.agg #[.int .u64 V.id, .slice am V.ms.length cm, .slice al V.ls.length cl, .slice ad V.ds.length cd], .agg #[.int .u16 x, .int .u32 y]] w fun e w' => e = .returned (.bool (decide ((x, y) ∈ V.ms))) ∧ Below w.heap.size w w' := by
  have hB2 : Below w.heap.size w ((w.alloc (.cells #[.int .u64 V.id, .slice am V.ms.length cm, .slice al V.ls.length cl, .slice ad V.ds.length cd] 54)).alloc (.cells #[.int .u16 x, .int .u32 y] 46)) := ((Below.refl _ _).alloc (Nat.le_refl _) _).alloc (by simp) _
  have hV2 := hV.ext hB2
  go_enter Tryz.func104, Tryz.ntmps104
  go_wp2_with (go_at_call 139; refine (contains_any _ _ _ _ _ _ hV.lm hV2.ms).mono ?_; rintro e w3 ⟨rfl, hb3⟩)
  go_ret
  exact ⟨rfl, hB2.trans (hb3.mono (by simp; omega))⟩
end
/-! ### two quorums meet -/
theorem mem_unionL {p : Pid} : ∀ {xs : List Pid} {L : List (Pid × Unit)}, p ∈ keys (unionL L xs) ↔ p ∈ keys L ∨ p ∈ xs
  | [], L => by simp [unionL]
  | q :: l, L => by
    simp only [unionL]
    rw [mem_unionL]
    have : p ∈ keys (add1 q L) ↔ p ∈ keys L ∨ p = q := by
      by_cases h : q ∈ keys L
      · rw [add1_of_mem h]
        constructor
        · exact .inl
        · rintro (h1 | rfl)
          · exact h1
          · exact h
      · rw [add1_of_not h]; simp [keys]
    rw [this, List.mem_cons, or_assoc]
end Go.Proofs.YtehagnbphamjhaaGreatDoor

namespace Go.Proofs.YtehagnbphamjhaaGreatDoor
open Go.RowKit
/-! ### bytes -/
theorem addr_addB (b off n : Nat) : (⟨b, off, none⟩ : Addr).add n = ⟨b, off + n, none⟩ := by
  unfold Addr.add; split <;> simp_all
theorem cell_toB {w wr : World} {a : Addr} {v : Value} (h : w.cell? a = some v) (hb : Below w.heap.size w wr) : wr.cell? a = some v := (hb.cell (World.block_lt_of_cell? w _ h)).trans h
def u8V (b : Nat) : Value := .int .u8 b
def u8C (bs : List Nat) : List Value := bs.map u8V
theorem u8C_len (bs : List Nat) : (u8C bs).length = bs.length := by simp [u8C]
theorem u8C_app (xs ys : List Nat) : u8C (xs ++ ys) = u8C xs ++ u8C ys := by simp [u8C]
theorem u8C_one (xs : List Nat) : ∀ u ∈ u8C xs, u.oneCell' = true := by
  intro u hu
  obtain ⟨b, _, rfl⟩ := List.mem_map.1 hu
  rfl
/-- the row of bytes behind a slice's address -/
def ByteRow (w : World) (a : Option Addr) (bs : List Nat) : Prop :=
  bs = [] ∨ ∃ b off, a = some ⟨b, off, none⟩ ∧ b < w.heap.size ∧ ∀ i (h : i < bs.length), w.cell? ⟨b, off + i, none⟩ = some (.int .u8 (bs[i] : Nat))
theorem ByteRow.ext {w w' : World} {a : Option Addr} {bs : List Nat} (h : ByteRow w a bs) (hb : Below w.heap.size w w') : ByteRow w' a bs := by
  rcases h with rfl | ⟨b, off, rfl, hlt, hc⟩
  · exact .inl rfl
  · exact .inr ⟨b, off, rfl, by have := hb.size; omega, fun i hi => by rw [hb.cell (by exact hlt)]; exact hc i hi⟩
theorem ByteRow.alloc {w : World} {a : Option Addr} {bs : List Nat} (h : ByteRow w a bs) (o : Obj) : ByteRow (w.alloc o) a bs := h.ext ((Below.refl _ _).alloc (Nat.le_refl _) _)
theorem ByteRow.grown {w w' : World} {a : Option Addr} {bs : List Nat} {row : Option Nat} (h : ByteRow w a bs) (hg : w.grownBy w' row) (hne : ∀ b off, a = some ⟨b, off, none⟩ → bs ≠ [] → row ≠ some b) : ByteRow w' a bs := by
  rcases h with rfl | ⟨b, off, rfl, hlt, hc⟩
  · exact .inl rfl
  · by_cases hl : bs = []
    · exact .inl hl
    · have hb := hg.block b hlt (fun e => hne b off rfl hl e.symm)
      exact .inr ⟨b, off, rfl, by have := hg.size; omega, fun i hi => (World.cell?_of_block (w := w) hb).trans (hc i hi)⟩
/-- the k-th byte, in any later world -/
theorem ByteRow.at {w wr : World} {a : Option Addr} {bs : List Nat} (h : ByteRow w a bs) {B : Nat} (hb : Below B w wr) (hB : B = w.heap.size) {k : Nat} (hk : k < bs.length) :
    ∃ b off x, a = some ⟨b, off, none⟩ ∧ x = bs[k] ∧ wr.cell? ⟨b, off + k, none⟩ = some (.int .u8 (x : Nat)) := by
  subst hB
  rcases h with rfl | ⟨b, off, rfl, hlt, hc⟩
  · simp at hk
  · exact ⟨b, off, bs[k], rfl, rfl, by rw [hb.cell (by exact hlt)]; exact hc k hk⟩
theorem ByteRow.cells {w : World} {b off : Nat} {bs : List Nat} (hc : ∀ i (h : i < bs.length), w.cell? ⟨b, off + i, none⟩ = some (.int .u8 (bs[i] : Nat))) :
    ∀ j u, (u8C bs)[j]? = some u → w.cell? ((⟨b, off, none⟩ : Addr).add j) = some u := by
  intro j u hu
  have hj : j < (u8C bs).length := (List.getElem?_eq_some_iff.1 hu).1
  rw [u8C_len] at hj
  rw [addr_addB]
  rw [hc j hj, ← hu]
  simp [u8C, u8V, hj]
/-- a cut of the row -/
theorem ByteRow.from {w : World} {a : Option Addr} {bs : List Nat} {k : Nat} {b off : Nat} (ha : a = some ⟨b, off, none⟩) (h : ByteRow w a bs) : ByteRow w (some ⟨b, off + k, none⟩) (bs.drop k) := by
  subst ha
  rcases h with rfl | ⟨b', off', e, hlt, hc⟩
  · exact .inl (by simp)
  · cases e
    refine .inr ⟨b, off + k, rfl, hlt, fun i hi => ?_⟩
    have := hc (k + i) (by simp at hi; omega)
    rw [List.getElem_drop, Nat.add_assoc]; exact this
theorem ByteRow.upto {w : World} {a : Option Addr} {bs : List Nat} (k : Nat) (h : ByteRow w a bs) : ByteRow w a (bs.take k) := by
  rcases h with rfl | ⟨b, off, rfl, hlt, hc⟩
  · exact .inl (by simp)
  · exact .inr ⟨b, off, rfl, hlt, fun i hi => by rw [List.getElem_take]; exact hc i (by simp at hi; omega)⟩

theorem infoB : (Tryz.prog.info? 5).map (fun i => (i.zero, i.size, i.bytes)) = some (some (.int .u8 0), 1, 1) := by kernel_rfl
/-- a slice value that owns a row of bytes, from block base on -/
def OwnB (w : World) (base : Nat) (v : Value) (bs : List Nat) : Prop := w.ownsRow base 5 1 v bs.length (u8C bs)
theorem OwnB.nil (w : World) (base : Nat) : OwnB w base (.slice none 0 0) [] := World.ownsRow_nil _ _ _ _
theorem OwnB.ext {w w' : World} {base : Nat} {v : Value} {bs : List Nat} (h : OwnB w base v bs) (hb : Below w.heap.size w w') : OwnB w' base v bs := by
  refine ⟨h.1, ?_⟩
  rcases h.2 with hn | ⟨g, cap, cur, rfl, hbb, hgg, rest⟩
  · exact .inl hn
  · exact .inr ⟨g, cap, cur, rfl, hbb, (hb.block g (Array.getElem?_eq_some_iff.1 hgg).1).trans hgg, rest⟩
theorem OwnB.alloc {w : World} {base : Nat} {v : Value} {bs : List Nat} (h : OwnB w base v bs) (o : Obj) : OwnB (w.alloc o) base v bs := h.ext ((Below.refl _ _).alloc (Nat.le_refl _) _)
theorem OwnB.mono {w : World} {b b' : Nat} {v : Value} {bs : List Nat} (h : OwnB w b v bs) (hb : b' ≤ b) : OwnB w b' v bs := by
  refine ⟨h.1, ?_⟩
  rcases h.2 with hn | ⟨g, cap, cur, rfl, hbb, rest⟩
  · exact .inl hn
  · exact .inr ⟨g, cap, cur, rfl, Nat.le_trans hb hbb, rest⟩
theorem OwnB.row {w : World} {base : Nat} {v : Value} {bs : List Nat} (h : OwnB w base v bs) : ∃ a c, v = .slice a bs.length c ∧ ByteRow w a bs ∧ ∀ b off, a = some ⟨b, off, none⟩ → base ≤ b := by
  have hcells := fun g => World.ownsRow.cells (g := g) h
  rcases h.2 with ⟨rfl, hn⟩ | ⟨g, cap, cur, rfl, hb, hg, hnc, hcm, hcs, htake⟩
  · exact ⟨none, 0, by rw [hn], .inl (List.length_eq_zero_iff.1 hn), by simp⟩
  · refine ⟨_, cap, rfl, .inr ⟨g, 0, rfl, (Array.getElem?_eq_some_iff.1 hg).1, fun i hi => ?_⟩, fun b off e => by cases e; exact hb⟩
    have h1 := hcells g rfl i (.int .u8 (bs[i] : Nat)) (by simp [u8C, u8V, hi])
    rw [addr_addB] at h1
    exact h1
theorem OwnB.butT {w w' : World} {base t : Nat} {v : Value} {bs : List Nat} (h : OwnB w base v bs) (hb : ∀ k, k ≠ t → w'.heap[k]? = w.heap[k]?) (ht : some t ≠ v.ownBlock) : OwnB w' base v bs := by
  refine ⟨h.1, ?_⟩
  rcases h.2 with hn | ⟨g, cap, cur, rfl, hbb, hgg, rest⟩
  · exact .inl hn
  · exact .inr ⟨g, cap, cur, rfl, hbb, (hb g (fun e => ht (by rw [e]; rfl))).trans hgg, rest⟩
theorem run_appendB {w : World} {base : Nat} {v : Value} {xs ys : List Nat} (hown : OwnB w base v xs) {a : Option Addr} {c : Nat} (hy : ByteRow w a ys) (hlen : xs.length + ys.length ≤ 1099511627776) (hbase : base ≤ w.heap.size) (ty : TypeId) :
    ∃ v' w', (Builtin.append_ #[55, 55] ty #[v, .slice a ys.length c]).run Tryz.prog w = .ok v' w' ∧ OwnB w' base v' (xs ++ ys) ∧ w.grownBy w' v.ownBlock ∧ (v'.ownBlock = v.ownBlock ∨ v'.ownBlock = some w.heap.size) := by
  obtain ⟨i0, hi, hz0, hz1, hz2⟩ := info_parts infoB
  have main : ∀ ad : Addr, a = some ad → (∀ j u, (u8C ys)[j]? = some u → w.cell? (ad.add j) = some u) → ∃ v' w', (Builtin.append_ #[55, 55] ty #[v, .slice a ys.length c]).run Tryz.prog w = .ok v' w' ∧ OwnB w' base v' (xs ++ ys) ∧ w.grownBy w' v.ownBlock ∧ (v'.ownBlock = v.ownBlock ∨ v'.ownBlock = some w.heap.size) := by
    intro ad he hc
    subst he
    obtain ⟨v', w', hr, h2, h3, h4, h5⟩ := run_append_own_at (P := Tryz.prog) w base 55 ty 5 i0 _ 1 1 Tryz.underlying55 hi hz0 hz1 hz2 rfl (by decide) v xs.length (u8C xs) hown ad ys.length c (u8C ys) (by rw [u8C_len]; omega) hc (u8C_one ys) (by unfold maxLen; omega) (by omega) hbase
    refine ⟨v', w', hr, ?_, h3, h5⟩
    unfold OwnB; rw [List.length_append, u8C_app]; exact h2
  rcases hy with rfl | ⟨b, off, rfl, hlt, hc⟩
  · cases a with
    | some ad => exact main ad rfl (by simp [u8C])
    | none =>
      refine ⟨v, w, ?_, by simpa using hown, ⟨rfl, rfl, rfl, Nat.le_refl _, fun _ _ _ => rfl⟩, .inl rfl⟩
      rcases hown.2 with ⟨rfl, hn⟩ | ⟨g, cap, cur, rfl, hb, hg, hnc, hcm, hcs, htake⟩
      · simp [Builtin.append_, run_underlying Tryz.underlying55, sizeOf, typeInfo, hi, Builtin.lenOf, Builtin.firstCells]
      · simp [Builtin.append_, run_underlying Tryz.underlying55, sizeOf, typeInfo, hi, Builtin.lenOf, Builtin.firstCells, hnc, storeCells]
  · exact main _ rfl (ByteRow.cells hc)
/-- 'append(out, ys...)' at the operation -/
theorem wpList_appendB {w : World} {ops : Array Oper} {rest : List Oper} {o : Oper} {a : Act} {Q : Exit → Act → World → Prop} {s x : Operand} {base : Nat} {v : Value} {xs ys : List Nat} (hown : OwnB w base v xs) {ad : Option Addr} {c n : Nat} (hy : ByteRow w ad ys) (hn : Hid (ys.length = n))
    (hlen : xs.length + n ≤ 1099511627776) (hbase : base ≤ w.heap.size)
    (hg : o.guard = none) (ho : o.op = .call { callee := .builtin .append, args := #[s, x], argTypes := #[55, 55] }) (hs : a.eval s = v) (hx : a.eval x = .slice ad n c)
    (h : ∀ v' w', OwnB w' base v' (xs ++ ys) → w.grownBy w' v.ownBlock → (v'.ownBlock = v.ownBlock ∨ v'.ownBlock = some w.heap.size) → wpList Tryz.prog ops Q rest (a.put o.dst v') w') : wpList Tryz.prog ops Q (o :: rest) a w := by
  have hn := hn.out; subst hn
  obtain ⟨v', w', hr, h2, h3, h4⟩ := run_appendB hown (c := c) hy hlen hbase o.type
  exact Lib.wpList_append_run w hg s x 55 55 ho _ _ hs hx v' w' hr (h v' w' h2 h3 h4)
/-- one byte in a block of its own -/
theorem ByteRow.one (w : World) (x : Nat) : ByteRow (w.alloc (.cells #[.int .u8 x] 5)) (some ⟨w.heap.size, 0, none⟩) [x] :=
  .inr ⟨w.heap.size, 0, rfl, by simp, fun i hi => by have : i = 0 := by simpa using hi
                                                     subst this; simp⟩
theorem below_of_grown {B : Nat} {w0 w w' : World} {base : Nat} {v : Value} {xs : List Nat} (hb : Below B w0 w) (hg : w.grownBy w' v.ownBlock) (hown : OwnB w base v xs) (hB : B ≤ w.heap.size) (hbase : B ≤ base) : Below B w0 w' :=
  hb.grown hg hB (fun g hg => Nat.le_trans hbase (World.ownsRow.lt hown g hg).1)
theorem run_makeB (w : World) (n m : Nat) (h : n + m ≤ 1099511627776) : (Instr.makeSlice 55 (.int .i64 (n : Nat)) (.int .i64 ((n : Int) + (m : Int)))).run Tryz.prog w = .ok (.slice (some ⟨w.heap.size, 0, none⟩) n (n + m)) (w.alloc (.cells (madeCells #[.int .u8 0] (n + m)) 5)) := by
  obtain ⟨i0, hi, hz0, hz1, hz2⟩ := info_parts infoB
  have := run_make (P := Tryz.prog) w 55 5 i0 (.int .u8 0) Tryz.underlying55 hi hz0 .i64 .i64 (n : Nat) ((n : Int) + (m : Int)) (by omega) (by omega) (by rw [hz2]; omega) (by omega)
  rw [hz1] at this
  have e1 : ((n : Int) + (m : Int)).toNat = n + m := by omega
  have e2 : ((n : Nat) : Int).toNat = n := by omega
  rw [e1, e2] at this
  simpa [Value.cells] using this

/-! ### short forms -/
def short (n : Nat) : List Nat := if h : n < 128 then [n] else (n % 128 + 128) :: short (n / 128)
termination_by n
decreasing_by omega
theorem short_lt {n : Nat} (h : n < 128) : short n = [n] := by rw [short]; simp [h]
theorem short_ge {n : Nat} (h : ¬ n < 128) : short n = (n % 128 + 128) :: short (n / 128) := by rw [short]; simp [h]
theorem short_len : ∀ (k n : Nat), n < 128 ^ (k + 1) → (short n).length ≤ k + 1
  | 0, n, h => by rw [short_lt (by simpa using h)]; simp
  | k + 1, n, h => by
    by_cases hn : n < 128
    · rw [short_lt hn]; simp
    · rw [short_ge hn]
      have := short_len k (n / 128) (by rw [Nat.pow_succ] at h; omega)
      simp; omega
theorem short_len10 {n : Nat} (h : n < 18446744073709551616) : (short n).length ≤ 10 := short_len 9 n (by omega)
end Go.Proofs.YtehagnbphamjhaaGreatDoor

namespace Go.Proofs.YtehagnbphamjhaaGreatDoor
open Go.RowKit
set_option maxRecDepth 100000 in
set_option maxHeartbeats 800000 in
theorem room_any {a : Option Addr} {c n : Nat} {bs : List Nat} {w : World} (m : Nat) (hn : Hid (bs.length = n)) (hl : n ≤ 549755813888) (hm : m ≤ 549755813888) (hrow : ByteRow w a bs) :
    Calls Tryz.prog 362 #[.slice a n c, .int .i64 m] w fun e w' => ∃ v, e = .returned v ∧ OwnB w' w.heap.size v bs ∧ Below w.heap.size w w' := by
  obtain ⟨i0, hi, hz0, hz1, hz2⟩ := info_parts infoB
  have hmk := run_makeB w n m (by omega)
  obtain ⟨Z, hZ⟩ : ∃ Z, madeCells #[.int .u8 0] (n + m) = Z := ⟨_, rfl⟩
  have hZs : Z.size = n + m := by rw [← hZ]; exact size_madeCells _ _
  rw [hZ] at hmk
  have HZ := hid hZs
  clear hZ hZs
  have hsz : (Tryz.prog.info? 5).map (·.size) = some 1 := by rw [hi]; simp [hz1]
  have hB : Below w.heap.size w (w.alloc (.cells Z 5)) := (Below.refl _ _).alloc (Nat.le_refl _) _
  have hpos : 0 < (u8C bs).length → (some ⟨w.heap.size, 0, none⟩ : Option Addr) = some ⟨w.heap.size, 0, none⟩ ∧ ∃ ad, a = some ad ∧ ∀ j v, (u8C bs)[j]? = some v → (w.alloc (.cells Z 5)).cell? (ad.add j) = some v := by
    intro h
    rcases hrow.alloc (.cells Z 5) with rfl | ⟨b, off, rfl, hlt, hc⟩
    · simp [u8C] at h
    · exact ⟨rfl, _, rfl, ByteRow.cells hc⟩
  have HPOS := hid hpos
  have HSZ := hid hsz
  clear hpos hsz
  go_enter Tryz.func362, Tryz.ntmps362
  go_wp2_with (with_reducible refine wpList_copy_splice rfl (.tmp 13) (.tmp 14) 55 55 rfl 5 Tryz.underlying55 HSZ.out (some ⟨w.heap.size, 0, none⟩) a n (n + m) n c rfl rfl w.heap.size 0 Z.toList 5 (by rw [Array.toArray_toList]; exact heap_alloc_new w _) (u8C bs) (by rw [u8C_len, hn.out]; simp) HPOS.out (by rw [u8C_len, hn.out]; have := HZ.out; simp; omega) (u8C_one bs) w.heap.size w hB (Nat.le_refl _) ?_; intro w4 hg4 hb4)
  go_ret
  refine ⟨_, rfl, ?_, hb4⟩
  unfold OwnB
  rw [hn.out]
  have h1 := hg4.out
  have hlen : (u8C bs).length = n := by rw [u8C_len, hn.out]
  have hZt : Z.toList.length = n + m := by have := HZ.out; simpa using this
  refine ⟨by rw [hlen]; omega, .inr ⟨w.heap.size, n + m, (splice Z.toList 0 (u8C bs)).toArray, rfl, Nat.le_refl _, h1, by omega, by unfold maxLen; omega, ?_, ?_⟩⟩
  · simp [length_splice Z.toList 0 (u8C bs) (by omega), hZt]
  · simp [splice, hlen]
theorem or128 (n : Nat) : bits .or .u8 ((n : Int) % 256) 128 = ((n % 128 + 128 : Nat) : Int) := by
  have := u8_or_nat (n % 256) 128 (by omega) (by decide)
  rw [show ((128 : Nat) : Int) = 128 from rfl, show ((n % 256 : Nat) : Int) = (n : Int) % 256 by omega] at this
  rw [this]
  congr 1
  have h2 := Nat.two_pow_add_eq_or_of_lt (i := 7) (b := n % 128) (by omega) 1
  have h3 : n % 256 ||| 128 = n % 128 ||| 128 := by
    apply Nat.eq_of_testBit_eq
    intro j
    rw [Nat.testBit_or, Nat.testBit_or, show (256 : Nat) = 2 ^ 8 from rfl, show n % 128 = n % 2 ^ 7 from rfl, Nat.testBit_mod_two_pow, Nat.testBit_mod_two_pow]
    have e : (128 : Nat).testBit j = decide (j = 7) := by
      rw [show (128 : Nat) = 2 ^ 7 from rfl, Nat.testBit_two_pow]
      rw [Bool.eq_iff_iff]; simp; omega
    rw [e]
    by_cases h : j = 7
    · simp [h]
    · have : (j < 8 ↔ j < 7) := by omega
      simp [h, this]
  rw [h3, Nat.or_comm]
  simpa [Nat.add_comm] using h2.symm
set_option maxRecDepth 100000 in
set_option maxHeartbeats 1600000 in
theorem putShort_any {a : Option Addr} {c n : Nat} {bs : List Nat} {w : World} (m : Nat) (hn : Hid (bs.length = n)) (hl : n ≤ 274877906944) (hm : m < 18446744073709551616) (hrow : ByteRow w a bs) :
    Calls Tryz.prog 278 #[.slice a n c, .int .u64 m] w fun e w' => ∃ v, e = .returned v ∧ OwnB w' w.heap.size v (bs ++ short m) ∧ Below w.heap.size w w' := by
  have hl10 := short_len10 hm
  obtain ⟨F, hF⟩ : ∃ F, bs ++ short m = F := ⟨_, rfl⟩
  have hFl : F.length ≤ n + 10 := by rw [← hF, List.length_append, hn.out]; omega
  rw [hF]
  have HF := hid hF
  clear hF
  go_enter Tryz.func278, Tryz.ntmps278
  go_wp2_with (go_at_call 362; refine (room_any 10 hn (by omega) (by decide) hrow).mono ?_; rintro e w1 ⟨v1, rfl, hown1, hb1⟩)
  go_loopw [1, 5] (fun i v wr => ∃ (k : Nat) (got : List Nat), k < 18446744073709551616 ∧ i = .int .u64 k ∧ Hid (F = got ++ short k) ∧ OwnB wr w.heap.size v got ∧ Below w.heap.size w wr) (fun i _ _ => (intOf i).toNat)
  case atStart => exact ⟨m, bs, hm, rfl, HF.out.symm, hown1, hb1⟩
  case round =>
    obtain ⟨k, got, hk, rfl, hM, hown, hb⟩ := hrel
    have hgl : got.length ≤ n + 10 := by have := congrArg List.length hM.out; rw [List.length_append] at this; omega
    have hsz := hb.size
    by_cases hge : 128 ≤ k
    · have hge' : decide (128 ≤ k) = true := by simpa using hge
      obtain ⟨x, hx⟩ : ∃ x, k % 128 + 128 = x := ⟨_, rfl⟩
      have e2 : bits .or .u8 ((k : Int) % 256) 128 = ((x : Nat) : Int) := by rw [← hx]; exact or128 k
      have hM2 : Hid (F = (got ++ [x]) ++ short (k / 128)) := hid (by rw [hM.out, short_ge (by omega), hx]; simp)
      clear hx
      go_wp2_with (at_builtin; refine wpList_appendB (hown.alloc _) (ByteRow.one _ x) (hid rfl) (by simp; omega) (by simp; omega) rfl rfl rfl rfl ?_; intro v2 w2 hown2 hg2 hat2)
      have hB2 : Below w.heap.size w w2 := below_of_grown (hb.alloc hsz _) hg2 (hown.alloc _) (by simp; omega) (Nat.le_refl _)
      go_roundw
      case rel => exact ⟨k / 128, got ++ [x], by omega, by go_num, hM2, hown2, hB2⟩
      case measure => simp [intOf]; omega
    · have hge' : decide (128 ≤ k) = false := by simpa using hge
      have hM2 : Hid (F = got ++ [k]) := hid (by rw [hM.out, short_lt (by omega)])
      have e3 : (k : Int) % 256 = k := by omega
      go_wp2_with (at_builtin; refine wpList_appendB (hown.alloc _) (ByteRow.one _ k) (hid rfl) (by simp; omega) (by simp; omega) rfl rfl rfl rfl ?_; intro v2 w2 hown2 hg2 hat2)
      have hB2 : Below w.heap.size w w2 := below_of_grown (hb.alloc hsz _) hg2 (hown.alloc _) (by simp; omega) (Nat.le_refl _)
      go_ret
      exact ⟨_, rfl, by rw [hM2.out]; exact hown2, hB2⟩
end Go.Proofs.YtehagnbphamjhaaGreatDoor

namespace Go.Proofs.YtehagnbphamjhaaGreatDoor
open Go.RowKit
/-! ### a process's form in plain words -/
def okP (p : Pid) : Prop := 0 ≤ p.1 ∧ p.1 < 65536 ∧ 0 ≤ p.2 ∧ p.2 < 4294967296
end Go.Proofs.YtehagnbphamjhaaGreatDoor

namespace Go.Proofs.YtehagnbphamjhaaGreatDoor
open Go.RowKit
theorem putShort_is {a : Option Addr} {c n : Nat} {bs F : List Nat} {w : World} {m : Nat} (hF : Hid (bs ++ short m = F)) (hn : Hid (bs.length = n)) (hl : n ≤ 274877906944) (hm : m < 18446744073709551616) (hrow : ByteRow w a bs) :
    Calls Tryz.prog 278 #[.slice a n c, .int .u64 m] w fun e w' => ∃ a' c', e = .returned (.slice a' F.length c') ∧ OwnB w' w.heap.size (.slice a' F.length c') F ∧ ByteRow w' a' F ∧ Below w.heap.size w w' := by
  refine (putShort_any (c := c) m hn hl hm hrow).mono ?_
  rintro e w' ⟨v, rfl, hown, hb⟩
  rw [hF.out] at hown
  obtain ⟨a', c', rfl, hr, -⟩ := hown.row
  exact ⟨a', c', rfl, hown, hr, hb⟩
end Go.Proofs.YtehagnbphamjhaaGreatDoor

namespace Go.Proofs.YtehagnbphamjhaaGreatDoor
open Go.RowKit
theorem step_appendB {w : World} {o : Oper} {a : Go.Act} {K : Go.Act → World → Prop} {Q : Exit → Go.Act → World → Prop} {y : Nat → Option Bool} {s x : Operand} {base : Nat} {v : Value} {xs ys : List Nat} {ad : Option Addr} {n c : Nat} (hw : Region.wanted o y = true) (hown : OwnB w base v xs) (hy : ByteRow w ad ys) (hn : Hid (ys.length = n))
    (hlen : xs.length + n ≤ 1099511627776) (hbase : base ≤ w.heap.size)
    (ho : o.op = .call { callee := .builtin .append, args := #[s, x], argTypes := #[55, 55] }) (hs : a.eval s = v) (hx : a.eval x = .slice ad n c)
    (h : ∀ v' w', OwnB w' base v' (xs ++ ys) → w.grownBy w' v.ownBlock → K (a.put o.dst v') w') : if Region.wanted o y = true then Oper.wp Tryz.prog o a w K Q else K (a.put o.dst undef) w := by
  rw [if_pos hw]
  have hn := hn.out; subst hn
  obtain ⟨v', w', hr, h2, h3, h4⟩ := run_appendB hown (c := c) hy hlen hbase o.type
  exact Lib.wp_append_run w s x 55 55 ho _ _ hs hx v' w' hr (h v' w' h2 h3)
theorem ByteRow.cut {w : World} {a : Option Addr} {bs : List Nat} (h : ByteRow w a bs) {k c : Nat} (hc : bs.length ≤ c) : ByteRow w (if c = k then a else a.map (·.add (k * 1))) (bs.drop k) := by
  by_cases hk : k < bs.length
  · rw [if_neg (by omega)]
    rcases h with rfl | ⟨b, off, rfl, hb, hcell⟩
    · simp at hk
    · refine .inr ⟨b, off + k, by simp [addr_addB], hb, fun i hi => ?_⟩
      simp only [List.length_drop] at hi
      have := hcell (k + i) (by omega)
      rw [List.getElem_drop, show off + k + i = off + (k + i) by omega]
      exact this
  · rw [List.drop_eq_nil_of_le (by omega)]; exact .inl rfl
end Go.Proofs.YtehagnbphamjhaaGreatDoor

namespace Go.Proofs.YtehagnbphamjhaaGreatDoor
open Go.RowKit
/-! ### lent bytes -/
/-- what a row in the making holds, as far as k -/
structure Fill (w : World) (g k : Nat) (F : List Nat) : Prop where
  cells : ∀ j (h : j < F.length), j < k → w.cell? ⟨g, j, none⟩ = some (.int .u8 (F[j] : Nat))
  there : ∀ j, j < F.length → (w.cell? ⟨g, j, none⟩).isSome = true
  fro : ∀ j, w.frozen? ⟨g, j, none⟩ = false
theorem Fill.step {w : World} {g k : Nat} {F : List Nat} (h : Fill w g k F) {x : Nat} (hk : k < F.length) (hx : x = F[k]) : Fill (w.setCell ⟨g, k, none⟩ (.int .u8 x)) g (k + 1) F := by
  refine ⟨fun j hj hjk => ?_, fun j hj => ?_, fun j => by simp [h.fro]⟩
  · by_cases e : j = k
    · subst e
      obtain ⟨v, hv⟩ := Option.isSome_iff_exists.1 (h.there j hj)
      rw [World.cell?_setCell_same _ _ _ hv, hx]
    · rw [World.cell?_setCell_other _ _ _ _ (by simp <;> omega)]
      exact h.cells j hj (by omega)
  · by_cases e : j = k
    · subst e
      obtain ⟨v, hv⟩ := Option.isSome_iff_exists.1 (h.there j hj)
      rw [World.cell?_setCell_same _ _ _ hv]; rfl
    · rw [World.cell?_setCell_other _ _ _ _ (by simp <;> omega)]
      exact h.there j hj
theorem Fill.made (w : World) (Z : Array Value) (F : List Nat) (h : F.length ≤ Z.size) : Fill (w.alloc (.cells Z 5)) w.heap.size 0 F := by
  refine ⟨fun j _ h => by omega, fun j hj => ?_, fun j => by simp⟩
  have : (w.alloc (.cells Z 5)).cell? ⟨w.heap.size, j, none⟩ = Z[j]? := by simp
  rw [this]; simp; omega
theorem Fill.row {w : World} {g k : Nat} {F : List Nat} (h : Fill w g k F) (hk : F.length ≤ k) (hg : g < w.heap.size) : ByteRow w (some ⟨g, 0, none⟩) F :=
  .inr ⟨g, 0, rfl, hg, fun i hi => by rw [Nat.zero_add]; exact h.cells i hi (by omega)⟩
end Go.Proofs.YtehagnbphamjhaaGreatDoor

namespace Go.Proofs.YtehagnbphamjhaaGreatDoor
open Go.RowKit
/-! ### the forms, and the readers, in plain words -/
/-- what is left to read, and what stopped it -/
structure RS where
  b : List Nat
  e : Nat
def zeroV : View := ⟨0, [], [], []⟩
/-! ### what was laid is read as it was -/
end Go.Proofs.YtehagnbphamjhaaGreatDoor

namespace Go.Proofs.YtehagnbphamjhaaGreatDoor
open Go.RowKit
/-! ### commands and beats in plain words -/
instance : DecidableEq View := fun a b => by
  obtain ⟨a1, a2, a3, a4⟩ := a
  obtain ⟨b1, b2, b3, b4⟩ := b
  exact decidable_of_iff (a1 = b1 ∧ a2 = b2 ∧ a3 = b3 ∧ a4 = b4) (by simp)
structure CmdD where
  kind : Int
  fr : Pid
  num : Nat
  vw : Nat
  data : List Nat
  v : View
end Go.Proofs.YtehagnbphamjhaaGreatDoor

namespace Go.Proofs.YtehagnbphamjhaaGreatDoor
open Go.RowKit

/-! ### bytes.Equal, cmd.counted, pid.May; a command in its box -/
def numsB (bs : List Nat) : List Int := bs.map fun b : Nat => Int.ofNat b
theorem run_conv_byte {a : Option Addr} {c n : Nat} {xs : List Nat} {w : World} (hn : xs.length = n) (hx : ByteRow w a xs) :
    (convert 55 9 (.slice a n c)).run Tryz.prog w = .ok (.string (strOfNums (numsB xs))) w := by
  have hs : Tryz.prog.underlying 55 = some (.slice 5) := by kernel_rfl
  have he : Tryz.prog.underlying 5 = some (.int .u8) := by kernel_rfl
  have hd : Tryz.prog.underlying 9 = some .string := by kernel_rfl
  subst hn
  rcases hx with rfl | ⟨b, off, rfl, hlt, hc⟩
  · rw [show strOfNums (numsB []) = ByteArray.empty from rfl, List.length_nil]
    rw [run_convert_bytes_string w 55 9 5 _ 0 c hs he hd]
    cases a <;> simp [Conv.bytesToString, loadCells]
    all_goals rfl
  · exact run_convert_bytes_arg (P := Tryz.prog) w 55 5 hs he b off xs.length c (numsB xs) (by simp [numsB]) (fun i hi => by rw [hc i hi]; simp [numsB, List.getD, List.getElem?_eq_getElem hi]) 9 hd

end Go.Proofs.YtehagnbphamjhaaGreatDoor

namespace Go.Proofs.YtehagnbphamjhaaGreatDoor
open Go.RowKit

/-! ### a command in its box; cmd.Same and the reference's -/
def cmdL (da am al ad : Option Addr) (dc cm cl cd : Nat) (c : CmdD) : Array Value :=
  #[.int .i64 c.kind, .int .u16 c.fr.1, .int .u32 c.fr.2, .int .u64 c.num, .int .u64 c.vw, .slice da c.data.length dc, .int .u64 c.v.id, .slice am c.v.ms.length cm, .slice al c.v.ls.length cl, .slice ad c.v.ds.length cd]
structure CmdR (w : World) (da am al ad : Option Addr) (c : CmdD) : Prop where
  dr : ByteRow w da c.data
  dl : c.data.length ≤ 70368744177664
  db : ∀ b ∈ c.data, b < 256
  v : ViewR w am al ad c.v
theorem CmdR.ext {w w' : World} {da am al ad : Option Addr} {c : CmdD} (h : CmdR w da am al ad c) (hb : Below w.heap.size w w') : CmdR w' da am al ad c :=
  ⟨h.dr.ext hb, h.dl, h.db, h.v.ext hb⟩
structure CmdBox (w : World) (b : Nat) (c : CmdD) (da am al ad : Option Addr) (dc cm cl cd : Nat) : Prop where
  c0 : w.cell? ⟨b, 0, none⟩ = some (.int .i64 c.kind)
  c1 : w.cell? ⟨b, 1, none⟩ = some (.int .u16 c.fr.1)
  c2 : w.cell? ⟨b, 2, none⟩ = some (.int .u32 c.fr.2)
  c3 : w.cell? ⟨b, 3, none⟩ = some (.int .u64 c.num)
  c4 : w.cell? ⟨b, 4, none⟩ = some (.int .u64 c.vw)
  c5 : w.cell? ⟨b, 5, none⟩ = some (.slice da c.data.length dc)
  c6 : w.cell? ⟨b, 6, none⟩ = some (.int .u64 c.v.id)
  c7 : w.cell? ⟨b, 7, none⟩ = some (.slice am c.v.ms.length cm)
  c8 : w.cell? ⟨b, 8, none⟩ = some (.slice al c.v.ls.length cl)
  c9 : w.cell? ⟨b, 9, none⟩ = some (.slice ad c.v.ds.length cd)
section
variable {w w' : World} {b : Nat} {c : CmdD} {da am al ad : Option Addr} {dc cm cl cd : Nat}
theorem CmdBox.lt (h : CmdBox w b c da am al ad dc cm cl cd) : b < w.heap.size := World.block_lt_of_cell? w _ h.c0
theorem CmdBox.ext (h : CmdBox w b c da am al ad dc cm cl cd) {B : Nat} (hb : Below B w w') (hB : b < B) : CmdBox w' b c da am al ad dc cm cl cd := by
  have g : ∀ k, w'.cell? ⟨b, k, none⟩ = w.cell? ⟨b, k, none⟩ := fun k => hb.cell (by exact hB)
  exact ⟨(g 0).trans h.c0, (g 1).trans h.c1, (g 2).trans h.c2, (g 3).trans h.c3, (g 4).trans h.c4, (g 5).trans h.c5, (g 6).trans h.c6, (g 7).trans h.c7, (g 8).trans h.c8, (g 9).trans h.c9⟩
theorem CmdBox.made (w : World) : CmdBox (w.alloc (.cells (cmdL da am al ad dc cm cl cd c) 326)) w.heap.size c da am al ad dc cm cl cd := by
  unfold cmdL
  exact ⟨by simp, by simp, by simp, by simp, by simp, by simp, by simp, by simp, by simp, by simp⟩
end
end Go.Proofs.YtehagnbphamjhaaGreatDoor

namespace Go.Proofs.YtehagnbphamjhaaGreatDoor
open Go.RowKit Go.Deep Go.Joins Go.ChangeShapes

/-! ### from the row's reading to processes, views, bytes, commands -/
/-- every slice and string in a datum is within the form's reach -/
def Sz {H : Type} (t : TypeId) (d : DataW H) : Prop := ∀ n ∈ d.weights Tryz.prog t, n ≤ reachBytes
theorem Sz.arg {H : Type} {ts : List TypeId} {ds : List (DataW H)} (h : (DataW.weightsEach Tryz.prog ts ds).all (· ≤ reachBytes) = true) {j : Nat} {t : TypeId} {d : DataW H} (ht : ts[j]? = some t) (hd : ds[j]? = some d) : Sz t d := by
  intro n hn
  have := List.all_eq_true.1 h _ (DataW.weights_mem_each ht hd n hn)
  simpa using this
theorem mem_weightsAll {H : Type} {e : TypeId} {d : DataW H} : ∀ {l : List (DataW H)}, d ∈ l → ∀ n ∈ d.weights Tryz.prog e, n ∈ DataW.weightsAll Tryz.prog e l
  | x :: l, h, n, hn => by
    simp only [DataW.weightsAll, List.mem_append]
    rcases List.mem_cons.1 h with rfl | h
    · exact .inl hn
    · exact .inr (mem_weightsAll h n hn)
theorem Sz.slice {H : Type} {t e : TypeId} {elems spare : List (DataW H)} (h : Sz t (.slice elems spare)) (ht : Tryz.prog.underlying t = some (.slice e)) :
    (elems.length + spare.length) * Tryz.prog.bytesOf e ≤ reachBytes ∧ (∀ d ∈ elems, Sz e d) := by
  have hw : ∀ n, n ∈ (DataW.slice elems spare).weights Tryz.prog t ↔ n = (elems.length + spare.length) * Tryz.prog.bytesOf e ∨ n ∈ DataW.weightsAll Tryz.prog e elems ∨ n ∈ DataW.weightsAll Tryz.prog e spare := by
    intro n; simp [DataW.weights, ht]
  exact ⟨h _ ((hw _).2 (.inl rfl)), fun d hd n hn => h n ((hw _).2 (.inr (.inl (mem_weightsAll hd n hn))))⟩
theorem cellsU8 : Tryz.prog.cellsOf 5 = 1 := by kernel_rfl
theorem list4 {α : Type} {cs : List α} (h : cs.length = 4) : ∃ c0 c1 c2 c3, cs = [c0, c1, c2, c3] := by
  match cs, h with
  | [c0, c1, c2, c3], _ => exact ⟨c0, c1, c2, c3, rfl⟩
section
variable {H : Type} {enc : TypeId × Value → H} {w : World}
/-- a view that is plain data -/
structure WfView (V : View) : Prop where
  id : 0 ≤ V.id ∧ V.id < 18446744073709551616
  ms : WfPids V.ms
  ls : ∀ l ∈ V.ls, WfPids l
  ds : WfPids V.ds
set_option maxRecDepth 100000 in
theorem open_bytesK {n : Nat} {cs : List Value} {x : DataW H × List MemPlace} (h : DataW.trod enc Tryz.prog w 0 (fun _ => true) true n 55 cs = some x) :
    ∃ (a : Option Addr) (c : Nat) (bs : List Nat), cs = [.slice a bs.length c] ∧ ByteRow w a bs ∧ (∀ b ∈ bs, b < 256) ∧ bs.length ≤ c := by
  rcases open_ints (x := x) Tryz.underlying55 Tryz.underlying5 cellsU8 h with ⟨hcs, _⟩ | ⟨a, len, cap, zs, hcs, _, hl, hm, hz, hx, hcell, hwf⟩
  · exact ⟨none, 0, [], hcs, .inl rfl, (by intro x hx; cases hx), Nat.le_refl _⟩
  · simp only [if_true] at hz
    have hzl : ((zs.take len).map Int.toNat).length = len := by simp; omega
    have hb : ∀ z ∈ zs, 0 ≤ z ∧ z ≤ 255 := fun z hz => bounds_u8 (hwf z hz)
    refine ⟨some a, cap, (zs.take len).map Int.toNat, by rw [hzl, hcs], ?_, ?_, by rw [hzl]; exact hl⟩
    · by_cases h0 : len = 0
      · subst h0; exact .inl (by simp)
      · have ha := hcell 0 (by omega)
        have hsp : a.spot = none := by simpa [Addr.add] using World.cell?_spot ha
        obtain ⟨b, off, sp⟩ := a
        simp only at hsp
        subst hsp
        refine .inr ⟨b, off, rfl, ?_, fun i hi => ?_⟩
        · have := World.block_lt_of_cell? w _ ha
          simpa [addr_addB] using this
        · have hi2 : i < len := by rw [hzl] at hi; exact hi
          have g := hcell i (by omega)
          rw [addr_addB] at g
          rw [g]
          have hzi : i < zs.length := by omega
          have hbz := hb zs[i] (List.getElem_mem _)
          simp only [List.getElem_map, List.getElem_take, List.getD_eq_getElem?_getD, List.getElem?_eq_getElem hzi, Option.getD_some]
          congr 2; omega
    · intro x hx'
      obtain ⟨z, hz1, rfl⟩ := List.mem_map.1 hx'
      have := hb z (List.mem_of_mem_take hz1)
      omega
end
section
variable {H : Type} {enc : TypeId × Value → H} {w : World}
end
section
variable {H : Type} {enc : TypeId × Value → H} {w : World}
end
end Go.Proofs.YtehagnbphamjhaaGreatDoor

/-
  DERIVED: THE SHELF's CONTRACTS AT THIS DUMP, IN PLAIN WORDS (tools/lay-plain.mjs out of 'YtehagnbphamjhaaGreatDoorShelfTRaw.lean', which tools/lay-shelf.mjs wrote): THE SAME DECLARATIONS UNDER THE SAME NAMES: 'import', 'namespace', 'open', 'def', 'theorem' AND NOTHING ELSE: no command of the shelf's: FOR A HAND-IN. Each laying: the table of numbers ('.._ren') and one theorem, a field a fact of the dump's own or the kernel's comparison; each contract: ONE APPLICATION.
-/
namespace Go.Proofs
open Go.Shelf
def Tryz.bst_ren : Go.Shelf.Ren := ⟨fun | 169 => 26 | n => n, fun | 70 => 63 | 9 => 9 | 0 => 0 | 72 => 65 | 37 => 55 | 127 => 108 | 3 => 3 | 5 => 5 | n => n, fun | n => n⟩
theorem Tryz.bst : Go.Proofs.Lays.n169 Tryz.prog Tryz.bst_ren := {
  mixed := by kernel_rfl
  f169 := Tryz.func26.trans (congrArg some (by kernel_rfl))
  t0 := Tryz.underlying0
  a0 := Tryz.isAgg0
  z0 := Tryz.sizeOf0
  v0 := Tryz.zeroValue0
  t3 := Tryz.underlying3
  a3 := Tryz.isAgg3
  z3 := Tryz.sizeOf3
  v3 := Tryz.zeroValue3
  t9 := Tryz.underlying9
  a9 := Tryz.isAgg9
  z9 := Tryz.sizeOf9
  v9 := Tryz.zeroValue9
  t37 := Tryz.underlying55
  a37 := Tryz.isAgg55
  z37 := Tryz.sizeOf55
  v37 := Tryz.zeroValue55
  t70 := Tryz.underlying63
  a70 := Tryz.isAgg63
  z70 := Tryz.sizeOf63
  v70 := Tryz.zeroValue63
  t72 := Tryz.underlying65
  a72 := Tryz.isAgg65
  z72 := Tryz.sizeOf65
  v72 := Tryz.zeroValue65
  t127 := Tryz.underlying108
  a127 := Tryz.isAgg108
  z127 := Tryz.sizeOf108
  v127 := Tryz.zeroValue108 }
def Tryz.itoa_ren : Go.Shelf.Ren := ⟨fun | 171 => 37 | 243 => 63 | 246 => 86 | 283 => 98 | 284 => 99 | 285 => 100 | 286 => 101 | 129 => 97 | 317 => 131 | 318 => 132 | 319 => 133 | 320 => 134 | 337 => 183 | 338 => 184 | n => n, fun | 3 => 3 | 9 => 9 | 2 => 2 | 4 => 4 | 171 => 169 | 0 => 0 | 53 => 27 | 37 => 55 | 5 => 5 | 173 => 171 | 212 => 205 | 51 => 44 | 20 => 20 | 213 => 206 | 46 => 130 | 232 => 368 | 233 => 369 | n => n, fun | 17 => 0 | 18 => 6 | 19 => 7 | n => n⟩
theorem Tryz.itoa : Go.Proofs.LaysM.n171 Tryz.prog Tryz.itoa_ren := {
  mixed := by kernel_rfl
  f129 := Tryz.func97.trans (congrArg some (by kernel_rfl))
  f171 := Tryz.func37.trans (congrArg some (by kernel_rfl))
  f243 := Tryz.func63.trans (congrArg some (by kernel_rfl))
  f246 := Tryz.func86.trans (congrArg some (by kernel_rfl))
  f283 := Tryz.func98.trans (congrArg some (by kernel_rfl))
  f284 := Tryz.func99.trans (congrArg some (by kernel_rfl))
  f285 := Tryz.func100.trans (congrArg some (by kernel_rfl))
  f286 := Tryz.func101.trans (congrArg some (by kernel_rfl))
  f317 := Tryz.func131.trans (congrArg some (by kernel_rfl))
  f318 := Tryz.func132.trans (congrArg some (by kernel_rfl))
  f319 := Tryz.func133.trans (congrArg some (by kernel_rfl))
  f320 := Tryz.func134.trans (congrArg some (by kernel_rfl))
  f337 := Tryz.func183.trans (congrArg some (by kernel_rfl))
  f338 := Tryz.func184.trans (congrArg some (by kernel_rfl))
  t0 := Tryz.underlying0
  a0 := Tryz.isAgg0
  z0 := Tryz.sizeOf0
  v0 := Tryz.zeroValue0
  t2 := Tryz.underlying2
  a2 := Tryz.isAgg2
  z2 := Tryz.sizeOf2
  v2 := Tryz.zeroValue2
  t3 := Tryz.underlying3
  a3 := Tryz.isAgg3
  z3 := Tryz.sizeOf3
  v3 := Tryz.zeroValue3
  t4 := Tryz.underlying4
  a4 := Tryz.isAgg4
  z4 := Tryz.sizeOf4
  v4 := Tryz.zeroValue4
  t5 := Tryz.underlying5
  a5 := Tryz.isAgg5
  z5 := Tryz.sizeOf5
  v5 := Tryz.zeroValue5
  t9 := Tryz.underlying9
  a9 := Tryz.isAgg9
  z9 := Tryz.sizeOf9
  v9 := Tryz.zeroValue9
  t20 := Tryz.underlying20
  a20 := Tryz.isAgg20
  z20 := Tryz.sizeOf20
  v20 := Tryz.zeroValue20
  t37 := Tryz.underlying55
  a37 := Tryz.isAgg55
  z37 := Tryz.sizeOf55
  v37 := Tryz.zeroValue55
  t46 := Tryz.underlying130
  a46 := Tryz.isAgg130
  z46 := Tryz.sizeOf130
  v46 := Tryz.zeroValue130
  t51 := Tryz.underlying44
  a51 := Tryz.isAgg44
  z51 := Tryz.sizeOf44
  v51 := Tryz.zeroValue44
  t53 := Tryz.underlying27
  a53 := Tryz.isAgg27
  z53 := Tryz.sizeOf27
  v53 := Tryz.zeroValue27
  t171 := Tryz.underlying169
  a171 := Tryz.isAgg169
  z171 := Tryz.sizeOf169
  v171 := Tryz.zeroValue169
  t173 := Tryz.underlying171
  a173 := Tryz.isAgg171
  z173 := Tryz.sizeOf171
  v173 := Tryz.zeroValue171
  t212 := Tryz.underlying205
  a212 := Tryz.isAgg205
  z212 := Tryz.sizeOf205
  v212 := Tryz.zeroValue205
  t213 := Tryz.underlying206
  a213 := Tryz.isAgg206
  z213 := Tryz.sizeOf206
  t232 := Tryz.underlying368
  a232 := Tryz.isAgg368
  z232 := Tryz.sizeOf368
  v232 := Tryz.zeroValue368
  t233 := Tryz.underlying369
  a233 := Tryz.isAgg369
  z233 := Tryz.sizeOf369
  v233 := Tryz.zeroValue369
  g17 := by kernel_rfl
  g18 := by kernel_rfl
  g19 := by kernel_rfl
  i0 := by kernel_rfl
  i2 := by kernel_rfl
  i3 := by kernel_rfl
  i4 := by kernel_rfl
  i5 := by kernel_rfl
  i9 := by kernel_rfl
  i20 := by kernel_rfl
  i37 := by kernel_rfl
  i46 := by kernel_rfl
  i51 := by kernel_rfl
  i53 := by kernel_rfl
  i171 := by kernel_rfl
  i173 := by kernel_rfl
  i212 := by kernel_rfl
  i232 := by kernel_rfl
  i233 := by kernel_rfl
  m17 := by kernel_rfl
  m18 := by kernel_rfl
  m19 := by kernel_rfl }
def Tryz.cutsuf_ren : Go.Shelf.Ren := ⟨fun | 104 => 32 | 211 => 53 | 207 => 77 | n => n, fun | 9 => 9 | 4 => 4 | 24 => 82 | 3 => 3 | n => n, fun | n => n⟩
theorem Tryz.cutsuf : Go.Proofs.Lays.n104 Tryz.prog Tryz.cutsuf_ren := {
  mixed := by kernel_rfl
  f104 := Tryz.func32.trans (congrArg some (by kernel_rfl))
  f207 := Tryz.func77.trans (congrArg some (by kernel_rfl))
  f211 := Tryz.func53.trans (congrArg some (by kernel_rfl))
  t3 := Tryz.underlying3
  a3 := Tryz.isAgg3
  z3 := Tryz.sizeOf3
  v3 := Tryz.zeroValue3
  t4 := Tryz.underlying4
  a4 := Tryz.isAgg4
  z4 := Tryz.sizeOf4
  v4 := Tryz.zeroValue4
  t9 := Tryz.underlying9
  a9 := Tryz.isAgg9
  z9 := Tryz.sizeOf9
  v9 := Tryz.zeroValue9
  t24 := Tryz.underlying82
  a24 := Tryz.isAgg82
  z24 := Tryz.sizeOf82
  v24 := Tryz.zeroValue82 }
def Tryz.split_ren : Go.Shelf.Ren := ⟨fun | 146 => 33 | 221 => 54 | 268 => 78 | 138 => 79 | 143 => 80 | 195 => 115 | 197 => 116 | 218 => 117 | 219 => 118 | 260 => 174 | 217 => 124 | 225 => 175 | 224 => 176 | 267 => 177 | 266 => 181 | 314 => 244 | n => n, fun | 9 => 9 | 31 => 85 | 3 => 3 | 4 => 4 | 0 => 0 | 105 => 190 | 21 => 21 | 5 => 5 | 46 => 130 | 119 => 359 | 139 => 362 | 138 => 361 | 146 => 363 | 51 => 44 | n => n, fun | 1 => 1 | 3 => 4 | 4 => 5 | n => n⟩
theorem Tryz.split : Go.Proofs.Lays.n146 Tryz.prog Tryz.split_ren := {
  mixed := by kernel_rfl
  f138 := Tryz.func79.trans (congrArg some (by kernel_rfl))
  f143 := Tryz.func80.trans (congrArg some (by kernel_rfl))
  f146 := Tryz.func33.trans (congrArg some (by kernel_rfl))
  f195 := Tryz.func115.trans (congrArg some (by kernel_rfl))
  f197 := Tryz.func116.trans (congrArg some (by kernel_rfl))
  f217 := Tryz.func124.trans (congrArg some (by kernel_rfl))
  f218 := Tryz.func117.trans (congrArg some (by kernel_rfl))
  f219 := Tryz.func118.trans (congrArg some (by kernel_rfl))
  f221 := Tryz.func54.trans (congrArg some (by kernel_rfl))
  f224 := Tryz.func176.trans (congrArg some (by kernel_rfl))
  f225 := Tryz.func175.trans (congrArg some (by kernel_rfl))
  f260 := Tryz.func174.trans (congrArg some (by kernel_rfl))
  f266 := Tryz.func181.trans (congrArg some (by kernel_rfl))
  f267 := Tryz.func177.trans (congrArg some (by kernel_rfl))
  f268 := Tryz.func78.trans (congrArg some (by kernel_rfl))
  f314 := Tryz.func244.trans (congrArg some (by kernel_rfl))
  t0 := Tryz.underlying0
  a0 := Tryz.isAgg0
  z0 := Tryz.sizeOf0
  v0 := Tryz.zeroValue0
  t3 := Tryz.underlying3
  a3 := Tryz.isAgg3
  z3 := Tryz.sizeOf3
  v3 := Tryz.zeroValue3
  t4 := Tryz.underlying4
  a4 := Tryz.isAgg4
  z4 := Tryz.sizeOf4
  v4 := Tryz.zeroValue4
  t5 := Tryz.underlying5
  a5 := Tryz.isAgg5
  z5 := Tryz.sizeOf5
  v5 := Tryz.zeroValue5
  t9 := Tryz.underlying9
  a9 := Tryz.isAgg9
  z9 := Tryz.sizeOf9
  v9 := Tryz.zeroValue9
  t21 := Tryz.underlying21
  a21 := Tryz.isAgg21
  z21 := Tryz.sizeOf21
  v21 := Tryz.zeroValue21
  t31 := Tryz.underlying85
  a31 := Tryz.isAgg85
  z31 := Tryz.sizeOf85
  v31 := Tryz.zeroValue85
  t46 := Tryz.underlying130
  a46 := Tryz.isAgg130
  z46 := Tryz.sizeOf130
  v46 := Tryz.zeroValue130
  t51 := Tryz.underlying44
  a51 := Tryz.isAgg44
  z51 := Tryz.sizeOf44
  v51 := Tryz.zeroValue44
  t105 := Tryz.underlying190
  a105 := Tryz.isAgg190
  z105 := Tryz.sizeOf190
  v105 := Tryz.zeroValue190
  t119 := Tryz.underlying359
  a119 := Tryz.isAgg359
  z119 := Tryz.sizeOf359
  t138 := Tryz.underlying361
  a138 := Tryz.isAgg361
  z138 := Tryz.sizeOf361
  v138 := Tryz.zeroValue361
  t139 := Tryz.underlying362
  a139 := Tryz.isAgg362
  z139 := Tryz.sizeOf362
  v139 := Tryz.zeroValue362
  t146 := Tryz.underlying363
  a146 := Tryz.isAgg363
  z146 := Tryz.sizeOf363
  v146 := Tryz.zeroValue363
  g1 := by kernel_rfl
  g3 := by kernel_rfl
  g4 := by kernel_rfl }
def Tryz.atoi_ren : Go.Shelf.Ren := ⟨fun | 172 => 55 | 244 => 81 | 245 => 82 | 247 => 119 | 279 => 120 | 280 => 121 | 281 => 122 | 282 => 123 | 287 => 178 | 316 => 179 | 171 => 37 | 205 => 180 | 321 => 245 | 322 => 246 | 243 => 63 | 246 => 86 | 283 => 98 | 284 => 99 | 285 => 100 | 286 => 101 | 129 => 97 | 317 => 131 | 318 => 132 | 319 => 133 | 320 => 134 | 337 => 183 | 338 => 184 | n => n, fun | 9 => 9 | 3 => 3 | 75 => 67 | 76 => 68 | 4 => 4 | 5 => 5 | 167 => 192 | 37 => 55 | 0 => 0 | 85 => 193 | 2 => 2 | 168 => 195 | 53 => 27 | 175 => 270 | 46 => 130 | 210 => 274 | 127 => 108 | 145 => 367 | 143 => 365 | 21 => 21 | 171 => 169 | 173 => 171 | 212 => 205 | 51 => 44 | 20 => 20 | 213 => 206 | 232 => 368 | 233 => 369 | 80 => 72 | n => n, fun | 15 => 2 | 16 => 3 | 17 => 0 | 18 => 6 | 19 => 7 | n => n⟩
theorem Tryz.atoi : Go.Proofs.LaysC.n172 Tryz.prog Tryz.atoi_ren := {
  mixed := by kernel_rfl
  f129 := Tryz.func97.trans (congrArg some (by kernel_rfl))
  f171 := Tryz.func37.trans (congrArg some (by kernel_rfl))
  f172 := Tryz.func55.trans (congrArg some (by kernel_rfl))
  f205 := Tryz.func180.trans (congrArg some (by kernel_rfl))
  f243 := Tryz.func63.trans (congrArg some (by kernel_rfl))
  f244 := Tryz.func81.trans (congrArg some (by kernel_rfl))
  f245 := Tryz.func82.trans (congrArg some (by kernel_rfl))
  f246 := Tryz.func86.trans (congrArg some (by kernel_rfl))
  f247 := Tryz.func119.trans (congrArg some (by kernel_rfl))
  f279 := Tryz.func120.trans (congrArg some (by kernel_rfl))
  f280 := Tryz.func121.trans (congrArg some (by kernel_rfl))
  f281 := Tryz.func122.trans (congrArg some (by kernel_rfl))
  f282 := Tryz.func123.trans (congrArg some (by kernel_rfl))
  f283 := Tryz.func98.trans (congrArg some (by kernel_rfl))
  f284 := Tryz.func99.trans (congrArg some (by kernel_rfl))
  f285 := Tryz.func100.trans (congrArg some (by kernel_rfl))
  f286 := Tryz.func101.trans (congrArg some (by kernel_rfl))
  f287 := Tryz.func178.trans (congrArg some (by kernel_rfl))
  f316 := Tryz.func179.trans (congrArg some (by kernel_rfl))
  f317 := Tryz.func131.trans (congrArg some (by kernel_rfl))
  f318 := Tryz.func132.trans (congrArg some (by kernel_rfl))
  f319 := Tryz.func133.trans (congrArg some (by kernel_rfl))
  f320 := Tryz.func134.trans (congrArg some (by kernel_rfl))
  f321 := Tryz.func245.trans (congrArg some (by kernel_rfl))
  f322 := Tryz.func246.trans (congrArg some (by kernel_rfl))
  f337 := Tryz.func183.trans (congrArg some (by kernel_rfl))
  f338 := Tryz.func184.trans (congrArg some (by kernel_rfl))
  t0 := Tryz.underlying0
  a0 := Tryz.isAgg0
  z0 := Tryz.sizeOf0
  v0 := Tryz.zeroValue0
  t2 := Tryz.underlying2
  a2 := Tryz.isAgg2
  z2 := Tryz.sizeOf2
  v2 := Tryz.zeroValue2
  t3 := Tryz.underlying3
  a3 := Tryz.isAgg3
  z3 := Tryz.sizeOf3
  v3 := Tryz.zeroValue3
  t4 := Tryz.underlying4
  a4 := Tryz.isAgg4
  z4 := Tryz.sizeOf4
  v4 := Tryz.zeroValue4
  t5 := Tryz.underlying5
  a5 := Tryz.isAgg5
  z5 := Tryz.sizeOf5
  v5 := Tryz.zeroValue5
  t9 := Tryz.underlying9
  a9 := Tryz.isAgg9
  z9 := Tryz.sizeOf9
  v9 := Tryz.zeroValue9
  t20 := Tryz.underlying20
  a20 := Tryz.isAgg20
  z20 := Tryz.sizeOf20
  v20 := Tryz.zeroValue20
  t21 := Tryz.underlying21
  a21 := Tryz.isAgg21
  z21 := Tryz.sizeOf21
  v21 := Tryz.zeroValue21
  t37 := Tryz.underlying55
  a37 := Tryz.isAgg55
  z37 := Tryz.sizeOf55
  v37 := Tryz.zeroValue55
  t46 := Tryz.underlying130
  a46 := Tryz.isAgg130
  z46 := Tryz.sizeOf130
  v46 := Tryz.zeroValue130
  t51 := Tryz.underlying44
  a51 := Tryz.isAgg44
  z51 := Tryz.sizeOf44
  v51 := Tryz.zeroValue44
  t53 := Tryz.underlying27
  a53 := Tryz.isAgg27
  z53 := Tryz.sizeOf27
  v53 := Tryz.zeroValue27
  t75 := Tryz.underlying67
  a75 := Tryz.isAgg67
  z75 := Tryz.sizeOf67
  v75 := Tryz.zeroValue67
  t76 := Tryz.underlying68
  a76 := Tryz.isAgg68
  z76 := Tryz.sizeOf68
  v76 := Tryz.zeroValue68
  t85 := Tryz.underlying193
  a85 := Tryz.isAgg193
  z85 := Tryz.sizeOf193
  v85 := Tryz.zeroValue193
  t127 := Tryz.underlying108
  a127 := Tryz.isAgg108
  z127 := Tryz.sizeOf108
  v127 := Tryz.zeroValue108
  t143 := Tryz.underlying365
  a143 := Tryz.isAgg365
  z143 := Tryz.sizeOf365
  v143 := Tryz.zeroValue365
  t145 := Tryz.underlying367
  a145 := Tryz.isAgg367
  z145 := Tryz.sizeOf367
  v145 := Tryz.zeroValue367
  t167 := Tryz.underlying192
  a167 := Tryz.isAgg192
  z167 := Tryz.sizeOf192
  v167 := Tryz.zeroValue192
  t168 := Tryz.underlying195
  a168 := Tryz.isAgg195
  z168 := Tryz.sizeOf195
  v168 := Tryz.zeroValue195
  t171 := Tryz.underlying169
  a171 := Tryz.isAgg169
  z171 := Tryz.sizeOf169
  v171 := Tryz.zeroValue169
  t173 := Tryz.underlying171
  a173 := Tryz.isAgg171
  z173 := Tryz.sizeOf171
  v173 := Tryz.zeroValue171
  t175 := Tryz.underlying270
  a175 := Tryz.isAgg270
  z175 := Tryz.sizeOf270
  v175 := Tryz.zeroValue270
  t210 := Tryz.underlying274
  a210 := Tryz.isAgg274
  z210 := Tryz.sizeOf274
  v210 := Tryz.zeroValue274
  t212 := Tryz.underlying205
  a212 := Tryz.isAgg205
  z212 := Tryz.sizeOf205
  v212 := Tryz.zeroValue205
  t213 := Tryz.underlying206
  a213 := Tryz.isAgg206
  z213 := Tryz.sizeOf206
  t232 := Tryz.underlying368
  a232 := Tryz.isAgg368
  z232 := Tryz.sizeOf368
  v232 := Tryz.zeroValue368
  t233 := Tryz.underlying369
  a233 := Tryz.isAgg369
  z233 := Tryz.sizeOf369
  v233 := Tryz.zeroValue369
  g15 := by kernel_rfl
  g16 := by kernel_rfl
  g17 := by kernel_rfl
  g18 := by kernel_rfl
  g19 := by kernel_rfl
  t80 := Tryz.underlying72
  a80 := Tryz.isAgg72
  z80 := Tryz.sizeOf72
  v80 := Tryz.zeroValue72
  i0 := by kernel_rfl
  i2 := by kernel_rfl
  i3 := by kernel_rfl
  i4 := by kernel_rfl
  i5 := by kernel_rfl
  i9 := by kernel_rfl
  i20 := by kernel_rfl
  i21 := by kernel_rfl
  i37 := by kernel_rfl
  i46 := by kernel_rfl
  i51 := by kernel_rfl
  i53 := by kernel_rfl
  i75 := by kernel_rfl
  i76 := by kernel_rfl
  i80 := by kernel_rfl
  i85 := by kernel_rfl
  i127 := by kernel_rfl
  i143 := by kernel_rfl
  i145 := by kernel_rfl
  i167 := by kernel_rfl
  i168 := by kernel_rfl
  i171 := by kernel_rfl
  i173 := by kernel_rfl
  i175 := by kernel_rfl
  i210 := by kernel_rfl
  i212 := by kernel_rfl
  i232 := by kernel_rfl
  i233 := by kernel_rfl
  m15 := by kernel_rfl
  m16 := by kernel_rfl
  m17 := by kernel_rfl
  m18 := by kernel_rfl
  m19 := by kernel_rfl
  c0 := by kernel_rfl
  c2 := by kernel_rfl
  c3 := by kernel_rfl
  c4 := by kernel_rfl
  c5 := by kernel_rfl
  c9 := by kernel_rfl
  c20 := by kernel_rfl
  c21 := by kernel_rfl
  c37 := by kernel_rfl
  c46 := by kernel_rfl
  c51 := by kernel_rfl
  c53 := by kernel_rfl
  c75 := by kernel_rfl
  c76 := by kernel_rfl
  c80 := by kernel_rfl
  c85 := by kernel_rfl
  c127 := by kernel_rfl
  c143 := by kernel_rfl
  c145 := by kernel_rfl
  c167 := by kernel_rfl
  c168 := by kernel_rfl
  c171 := by kernel_rfl
  c173 := by kernel_rfl
  c175 := by kernel_rfl
  c210 := by kernel_rfl
  c212 := by kernel_rfl
  c213 := by kernel_rfl
  c232 := by kernel_rfl
  c233 := by kernel_rfl }
def Tryz.hasprefix_ren : Go.Shelf.Ren := ⟨fun | 99 => 56 | 206 => 83 | n => n, fun | 9 => 9 | 4 => 4 | 3 => 3 | n => n, fun | n => n⟩
theorem Tryz.hasprefix : Go.Proofs.Lays.n99 Tryz.prog Tryz.hasprefix_ren := {
  mixed := by kernel_rfl
  f99 := Tryz.func56.trans (congrArg some (by kernel_rfl))
  f206 := Tryz.func83.trans (congrArg some (by kernel_rfl))
  t3 := Tryz.underlying3
  a3 := Tryz.isAgg3
  z3 := Tryz.sizeOf3
  v3 := Tryz.zeroValue3
  t4 := Tryz.underlying4
  a4 := Tryz.isAgg4
  z4 := Tryz.sizeOf4
  v4 := Tryz.zeroValue4
  t9 := Tryz.underlying9
  a9 := Tryz.isAgg9
  z9 := Tryz.sizeOf9
  v9 := Tryz.zeroValue9 }
def Tryz.indexb_ren : Go.Shelf.Ren := ⟨fun | 137 => 84 | 217 => 124 | 266 => 181 | n => n, fun | 9 => 9 | 5 => 5 | 3 => 3 | n => n, fun | n => n⟩
theorem Tryz.indexb : Go.Proofs.Lays.n137 Tryz.prog Tryz.indexb_ren := {
  mixed := by kernel_rfl
  f137 := Tryz.func84.trans (congrArg some (by kernel_rfl))
  f217 := Tryz.func124.trans (congrArg some (by kernel_rfl))
  f266 := Tryz.func181.trans (congrArg some (by kernel_rfl))
  t3 := Tryz.underlying3
  a3 := Tryz.isAgg3
  z3 := Tryz.sizeOf3
  v3 := Tryz.zeroValue3
  t5 := Tryz.underlying5
  a5 := Tryz.isAgg5
  z5 := Tryz.sizeOf5
  v5 := Tryz.zeroValue5
  t9 := Tryz.underlying9
  a9 := Tryz.isAgg9
  z9 := Tryz.sizeOf9
  v9 := Tryz.zeroValue9 }
def Tryz.small_ren : Go.Shelf.Ren := ⟨fun | 283 => 98 | n => n, fun | 3 => 3 | 9 => 9 | 4 => 4 | n => n, fun | n => n⟩
theorem Tryz.small : Go.Proofs.Lays.n283 Tryz.prog Tryz.small_ren := {
  mixed := by kernel_rfl
  f283 := Tryz.func98.trans (congrArg some (by kernel_rfl))
  t3 := Tryz.underlying3
  a3 := Tryz.isAgg3
  z3 := Tryz.sizeOf3
  v3 := Tryz.zeroValue3
  t4 := Tryz.underlying4
  a4 := Tryz.isAgg4
  z4 := Tryz.sizeOf4
  v4 := Tryz.zeroValue4
  t9 := Tryz.underlying9
  a9 := Tryz.isAgg9
  z9 := Tryz.sizeOf9
  v9 := Tryz.zeroValue9 }
def Tryz.ndig_ren : Go.Shelf.Ren := ⟨fun | 284 => 99 | 129 => 97 | 317 => 131 | 318 => 132 | n => n, fun | 53 => 27 | 3 => 3 | 212 => 205 | 0 => 0 | 4 => 4 | 46 => 130 | 5 => 5 | 9 => 9 | n => n, fun | 17 => 0 | n => n⟩
theorem Tryz.ndig : Go.Proofs.LaysM.n284 Tryz.prog Tryz.ndig_ren := {
  mixed := by kernel_rfl
  f129 := Tryz.func97.trans (congrArg some (by kernel_rfl))
  f284 := Tryz.func99.trans (congrArg some (by kernel_rfl))
  f317 := Tryz.func131.trans (congrArg some (by kernel_rfl))
  f318 := Tryz.func132.trans (congrArg some (by kernel_rfl))
  t0 := Tryz.underlying0
  a0 := Tryz.isAgg0
  z0 := Tryz.sizeOf0
  v0 := Tryz.zeroValue0
  t3 := Tryz.underlying3
  a3 := Tryz.isAgg3
  z3 := Tryz.sizeOf3
  v3 := Tryz.zeroValue3
  t4 := Tryz.underlying4
  a4 := Tryz.isAgg4
  z4 := Tryz.sizeOf4
  v4 := Tryz.zeroValue4
  t5 := Tryz.underlying5
  a5 := Tryz.isAgg5
  z5 := Tryz.sizeOf5
  v5 := Tryz.zeroValue5
  t9 := Tryz.underlying9
  a9 := Tryz.isAgg9
  z9 := Tryz.sizeOf9
  v9 := Tryz.zeroValue9
  t46 := Tryz.underlying130
  a46 := Tryz.isAgg130
  z46 := Tryz.sizeOf130
  v46 := Tryz.zeroValue130
  t53 := Tryz.underlying27
  a53 := Tryz.isAgg27
  z53 := Tryz.sizeOf27
  v53 := Tryz.zeroValue27
  t212 := Tryz.underlying205
  a212 := Tryz.isAgg205
  z212 := Tryz.sizeOf205
  v212 := Tryz.zeroValue205
  g17 := by kernel_rfl
  i0 := by kernel_rfl
  i3 := by kernel_rfl
  i4 := by kernel_rfl
  i5 := by kernel_rfl
  i9 := by kernel_rfl
  i46 := by kernel_rfl
  i53 := by kernel_rfl
  i212 := by kernel_rfl
  m17 := by kernel_rfl }
def Tryz.fmtb_ren : Go.Shelf.Ren := ⟨fun | 285 => 100 | n => n, fun | 37 => 55 | 53 => 27 | 3 => 3 | 4 => 4 | 51 => 44 | 9 => 9 | 5 => 5 | 0 => 0 | n => n, fun | n => n⟩
theorem Tryz.fmtb : Go.Proofs.Lays.n285 Tryz.prog Tryz.fmtb_ren := {
  mixed := by kernel_rfl
  f285 := Tryz.func100.trans (congrArg some (by kernel_rfl))
  t0 := Tryz.underlying0
  a0 := Tryz.isAgg0
  z0 := Tryz.sizeOf0
  v0 := Tryz.zeroValue0
  t3 := Tryz.underlying3
  a3 := Tryz.isAgg3
  z3 := Tryz.sizeOf3
  v3 := Tryz.zeroValue3
  t4 := Tryz.underlying4
  a4 := Tryz.isAgg4
  z4 := Tryz.sizeOf4
  v4 := Tryz.zeroValue4
  t5 := Tryz.underlying5
  a5 := Tryz.isAgg5
  z5 := Tryz.sizeOf5
  v5 := Tryz.zeroValue5
  t9 := Tryz.underlying9
  a9 := Tryz.isAgg9
  z9 := Tryz.sizeOf9
  v9 := Tryz.zeroValue9
  t37 := Tryz.underlying55
  a37 := Tryz.isAgg55
  z37 := Tryz.sizeOf55
  v37 := Tryz.zeroValue55
  t51 := Tryz.underlying44
  a51 := Tryz.isAgg44
  z51 := Tryz.sizeOf44
  v51 := Tryz.zeroValue44
  t53 := Tryz.underlying27
  a53 := Tryz.isAgg27
  z53 := Tryz.sizeOf27
  v53 := Tryz.zeroValue27 }
end Go.Proofs

namespace Go.Proofs.YtehagnbphamjhaaGreatDoor
open Go.RowKit
/-! ### texts of processes, in plain words -/
abbrev Str := List UInt8
def dgOk (c : UInt8) : Prop := 48 ≤ c.toNat ∧ c.toNat ≤ 57
def valFrom (n : Nat) (s : Str) : Nat := s.foldl (fun n c => n * 10 + (c.toNat - 48)) n
theorem dgChar {d : Nat} (h : d < 10) : (UInt8.ofNat (48 + d)).toNat = 48 + d := by
  simp [UInt8.toNat_ofNat']; omega
theorem dec_ok (u : Nat) : ∀ c ∈ Lib.decDigits u, dgOk c := by
  induction u using Nat.strongRecOn with
  | _ u ih =>
    intro c hc
    rw [Lib.decDigits] at hc
    by_cases h : u < 10
    · rw [dif_pos h] at hc
      have := List.mem_singleton.1 hc
      subst this
      unfold dgOk; rw [dgChar h]; omega
    · rw [dif_neg h] at hc
      rcases List.mem_append.1 hc with hc | hc
      · exact ih (u / 10) (by omega) c hc
      · have := List.mem_singleton.1 hc
        subst this
        unfold dgOk; rw [dgChar (by omega)]; omega
theorem dec_val (u : Nat) : valFrom 0 (Lib.decDigits u) = u := by
  induction u using Nat.strongRecOn with
  | _ u ih =>
    rw [Lib.decDigits]
    by_cases h : u < 10
    · rw [dif_pos h]
      show 0 * 10 + ((UInt8.ofNat (48 + u)).toNat - 48) = u
      rw [dgChar h]; omega
    · rw [dif_neg h]
      unfold valFrom at ih ⊢
      rw [List.foldl_append, ih (u / 10) (by omega)]
      show u / 10 * 10 + ((UInt8.ofNat (48 + u % 10)).toNat - 48) = u
      rw [dgChar (by omega)]; omega
theorem dec_ne (u : Nat) : Lib.decDigits u ≠ [] := by
  rw [Lib.decDigits]
  split
  · simp
  · simp
theorem dec_len (u k : Nat) (h : u < 10 ^ (k + 1)) : (Lib.decDigits u).length ≤ k + 1 := by
  induction k generalizing u with
  | zero => rw [Lib.decDigits, dif_pos (by simpa using h)]; simp
  | succ k ih =>
    rw [Lib.decDigits]
    split
    · simp
    · rw [List.length_append]
      have := ih (u / 10) (by rw [Nat.div_lt_iff_lt_mul (by omega)]; rw [Nat.pow_succ] at h; exact h)
      simp; omega
theorem val_ge : ∀ (s : Str) (n : Nat), n ≤ valFrom n s
  | [], n => Nat.le_refl _
  | c :: r, n => by
    have := val_ge r (n * 10 + (c.toNat - 48))
    show n ≤ valFrom (n * 10 + (c.toNat - 48)) r
    omega
/-! the reference's number -/
/-! cutting at a byte -/
def at1 (c : UInt8) (s : Str) : Nat := s.findIdx fun x => x == c
theorem index_one (c : UInt8) : ∀ s : Str, Lib.index s [c] = if at1 c s < s.length then (at1 c s : Int) else -1
  | [] => by simp [Lib.index, at1]
  | b :: r => by
    have ih := index_one c r
    unfold Lib.index
    unfold at1 at ih ⊢
    rw [List.findIdx_cons]
    by_cases h : b = c
    · subst h
      simp [List.isPrefixOf]
    · have h1 : ([c].isPrefixOf (b :: r)) = false := by simp [List.isPrefixOf]; exact fun e => h e.symm
      have h2 : (b == c) = false := by simpa using h
      rw [if_neg (by rw [h1]; decide), ih, h2]
      simp only [cond_false, List.length_cons]
      by_cases h3 : List.findIdx (fun x => x == c) r < r.length
      · rw [if_pos h3, if_neg (by simp), if_pos (by omega)]; simp
      · rw [if_neg h3, if_pos (by decide), if_neg (by omega)]
theorem at1_app {c : UInt8} {a b : Str} (h : c ∉ a) : at1 c (a ++ c :: b) = a.length := by
  unfold at1
  rw [List.findIdx_append]
  have : ¬ List.findIdx (fun x => x == c) a < a.length := by
    intro hlt
    have := List.findIdx_getElem (w := hlt)
    have e : a[List.findIdx (fun x => x == c) a] = c := by simpa using this
    exact h (e ▸ List.getElem_mem hlt)
  rw [if_neg this]
  have : List.findIdx (fun x => x == c) (c :: b) = 0 := by rw [List.findIdx_cons]; simp
  rw [this]; simp
/-! processes -/
def printP (p : Pid) : Str := Lib.decDigits p.1.toNat ++ 46 :: Lib.decDigits p.2.toNat
end Go.Proofs.YtehagnbphamjhaaGreatDoor

namespace Go.Proofs.YtehagnbphamjhaaGreatDoor
open Go.RowKit
/-! ### strconv.FormatUint and the reference's Digits -/
def TabOk (w : World) : Prop := Lib.TabIs Tryz.prog w "internal/strconv.uint64pow10" .u64 Lib.pow10Tab
theorem TabOk.ext {w w' : World} (h : TabOk w) (hb : Below w.heap.size w w') : TabOk w' := by
  have h0 := h
  unfold TabOk Lib.TabIs World.var? at h ⊢
  cases hg : Tryz.prog.globalNamed "internal/strconv.uint64pow10" with
  | none => simp [hg] at h
  | some g =>
    simp only [hg, Option.bind_some] at h ⊢
    cases hk : w.heap[g]? with
    | none => simp [hk] at h
    | some o =>
      have hlt : g < w.heap.size := (Array.getElem?_eq_some_iff.1 hk).1
      rw [hb.block g hlt]
      exact h
theorem smallI_any (i : Nat) (h : i < 100) (w : World) : Calls Tryz.prog 98 #[.int .i64 i] w fun e w' => e = .returned (.string ⟨(Lib.decDigits i).toArray⟩) ∧ w' = w := Any.internal_strconv_small Tryz.small i h w
theorem ndig_any (u : Nat) (h1 : 1 ≤ u) (h2 : u < 18446744073709551616) (w : World) (ht : TabOk w) : Calls Tryz.prog 99 #[.int .u64 u] w fun e w' => e = .returned (.int .i64 (Lib.nDigits u)) ∧ w' = w := Any.internal_strconv_numDigits Tryz.ndig u h1 h2 w ht
theorem fmtb_any (blk off cap u : Nat) (d : Array UInt8) (w : World) (hH : Go.Sort.Holds (fun (b : UInt8) => Value.int .u8 (b.toNat : Int)) w blk off d) (hu : u < 10 ^ d.size) (hu64 : u < 18446744073709551616) (hsz : d.size < 4611686018427387904) :
    Calls Tryz.prog 100 #[.slice (some ⟨blk, off, none⟩) d.size cap, .int .u64 u] w fun e w' =>
      e = .returned (.tuple #[]) ∧ ∃ (n v' : Nat) (dk : Array UInt8), w' = (Go.Sort.putRow (fun (b : UInt8) => Value.int .u8 (b.toNat : Int)) w blk off dk).drewN n ∧ Lib.FmtInv d.size u 0 v' dk := Any.internal_strconv_formatBase10 Tryz.fmtb blk off cap u d w hH hu hu64 hsz
set_option maxHeartbeats 3200000 in
set_option maxRecDepth 100000 in
theorem fmtI_any (u : Nat) (hu64 : u < 18446744073709551616) (w : World) (ht : TabOk w) :
    Calls Tryz.prog 67 #[.int .u64 u, .int .i64 10] w fun e w' => e = .returned (.string ⟨(Lib.decDigits u).toArray⟩) ∧ Below w.heap.size w w' := by
  by_cases hs : u < 100
  · have C1 := Lib.hid (smallI_any u hs w)
    have i1 : (u : Int) < 100 := by omega
    have i2 : decide ((u : Int) < 100) = true := decide_eq_true i1
    have i3 : IntKind.i64.wrap (u : Int) = u := by rw [IntKind.wrap_i64] <;> omega
    go_enter Tryz.func67, Tryz.ntmps67
    go_wp2_with fail
    (with_reducible refine C1.out.mono ?_)
    rintro e w3 ⟨rfl, rfl⟩
    go_wp2
    go_ret
    exact ⟨rfl, Below.refl _ _⟩
  · have hu1 : 1 ≤ u := by omega
    have i1 : ¬ (u : Int) < 100 := by omega
    have i2 : decide ((u : Int) < 100) = false := decide_eq_false i1
    have hnd20 : Lib.nDigits u ≤ 20 := by have := Lib.numDigits_eq u hu1 hu64; split at this <;> omega
    have hal : Tryz.prog.arrayLen 169 = 24 := by kernel_rfl
    have hsl : ∀ W, (Instr.sliceAt 169 (.pointer (some ⟨w.heap.size, 0, none⟩)) none (some (.int .i64 (Lib.nDigits u : Int))) none).run Tryz.prog W = .ok (.slice (some ⟨w.heap.size, 0, none⟩) (Lib.nDigits u) 24) W := fun W => by
      rw [run_sliceAt_array_h W 169 ⟨w.heap.size, 0, none⟩ (by kernel_rfl) .i64 (Lib.nDigits u : Int) (by omega) (by rw [hal]; omega)]
      rw [hal]
      go_simp
    have hH0 := Lib.holds_zero0 w 169 (Lib.nDigits u) (by omega)
    have hfmt := fmtb_any w.heap.size 0 24 u (Array.replicate (Lib.nDigits u) 0) (w.alloc (.cells Lib.zeros24 169)) hH0 (by rw [Array.size_replicate]; exact Lib.lt_pow_nDigits u) hu64 (by rw [Array.size_replicate]; omega)
    rw [Array.size_replicate] at hfmt
    have HH0 := Lib.hid hH0
    have HF := Lib.hid hfmt
    have C1 := Lib.hid (ndig_any u hu1 hu64 (w.alloc (.cells Lib.zeros24 169)) (ht.ext ((Below.refl _ _).alloc (Nat.le_refl _) _)))
    clear hH0 hal hfmt
    go_enter Tryz.func67, Tryz.ntmps67
    go_wp2_with fail
    (refine C1.out.mono ?_)
    rintro e w3 ⟨rfl, rfl⟩
    go_wp2_with fail
    (refine HF.out.mono ?_)
    rintro e w3 ⟨rfl, k, v', dk, rfl, hF⟩
    have hcv : (convert 55 9 (.slice (some ⟨w.heap.size, 0, none⟩) (Lib.nDigits u) 24)).run Tryz.prog ((Go.Sort.putRow (fun (b : UInt8) => Value.int .u8 (b.toNat : Int)) (w.alloc (.cells Lib.zeros24 169)) w.heap.size 0 dk).drewN k) = .ok (.string ⟨(Lib.decDigits u).toArray⟩) ((Go.Sort.putRow (fun (b : UInt8) => Value.int .u8 (b.toNat : Int)) (w.alloc (.cells Lib.zeros24 169)) w.heap.size 0 dk).drewN k) := by
      have h := run_convert_bytes_back (P := Tryz.prog) ((Go.Sort.putRow (fun (b : UInt8) => Value.int .u8 (b.toNat : Int)) (w.alloc (.cells Lib.zeros24 169)) w.heap.size 0 dk).drewN k) 55 9 5 ⟨w.heap.size, 0, none⟩ 24 (Lib.decDigits u) Tryz.underlying55 Tryz.underlying5 Tryz.underlying9 (fun j hj => by
        rw [Lib.row_is_numeral hF j hj, Lib.add_plain, World.cell?_drewN]
        exact Go.Sort.cell?_putRow (fun (b : UInt8) => Value.int .u8 (b.toNat : Int)) _ w.heap.size 0 _ dk HH0.out (by rw [hF.size, Array.size_replicate]) j (by rw [hF.size]; rw [Lib.decDigits_length] at hj; exact hj))
      rw [Lib.decDigits_length] at h
      exact h
    go_wp2
    go_ret
    obtain ⟨os, eo⟩ := Lib.fin_at w (.cells Lib.zeros24 169) dk k 0
    exact ⟨rfl, by rw [eo]; exact Lib.below_grow w.heap.size w (Nat.le_refl _) k os⟩
theorem fmt_any (u : Nat) (hu64 : u < 18446744073709551616) (w : World) (ht : TabOk w) :
    Calls Tryz.prog 40 #[.int .u64 u, .int .i64 10] w fun e w' => e = .returned (.string ⟨(Lib.decDigits u).toArray⟩) ∧ Below w.heap.size w w' := by
  have C1 := Lib.hid (fmtI_any u hu64 w ht)
  go_enter Tryz.func40, Tryz.ntmps40
  go_wp2_with fail
  (refine C1.out.mono ?_)
  rintro e w3 ⟨rfl, hb⟩
  have HB := Lib.hid hb
  clear hb
  go_wp2
  go_ret
  exact ⟨rfl, HB.out⟩
end Go.Proofs.YtehagnbphamjhaaGreatDoor

namespace Go.Proofs.YtehagnbphamjhaaGreatDoor
open Go.RowKit
/-! ### Digits of the reference, Print of both -/
theorem cell_extY {w : World} {a : Addr} {v : Value} (h : w.cell? a = some v) : ∀ U : ExtW w, U.W.cell? a = some v := fun U => (U.h.cell (World.block_lt_of_cell? w _ h)).trans h
theorem run_cat (a b : Str) (ha : a.length ≤ 8000000) (hb : b.length ≤ 8000000) (W : World) : (Op.stringOp .add ⟨a.toArray⟩ ⟨b.toArray⟩).run Tryz.prog W = .ok (.string ⟨(a ++ b).toArray⟩) W :=
  run_string_add_lists W a b (by omega) (by omega)
theorem printP_len {x y : Nat} (hx : x < 65536) (hy : y < 4294967296) : (Lib.decDigits x).length ≤ 20 ∧ (Lib.decDigits y).length ≤ 20 := ⟨dec_len x 19 (by omega), dec_len y 19 (by omega)⟩
set_option maxHeartbeats 1600000 in
theorem print_any {x y : Nat} (hx : x < 65536) (hy : y < 4294967296) (w : World) (ht : TabOk w) :
    Calls Tryz.prog 24 #[.agg #[.int .u16 x, .int .u32 y]] w fun e w' => e = .returned (.string ⟨(printP ((x : Int), (y : Int))).toArray⟩) ∧ Below w.heap.size w w' := by
  obtain ⟨wr, hwr⟩ : ∃ wr, w.alloc (.cells #[.int .u16 x, .int .u32 y] 46) = wr := ⟨_, rfl⟩
  have hB : Below w.heap.size w wr := by rw [← hwr]; exact (Below.refl _ _).alloc (Nat.le_refl _) _
  have k0 : wr.cell? ⟨w.heap.size, 0, none⟩ = some (.int .u16 x) := by rw [← hwr]; simp
  have k1 : wr.cell? ⟨w.heap.size, 1, none⟩ = some (.int .u32 y) := by rw [← hwr]; simp
  have f0 := cell_extY k0
  have f1 := cell_extY k1
  have CX : ∀ n : Nat, n < 18446744073709551616 → ∀ V : ExtW wr, Calls Tryz.prog 40 #[.int .u64 (n : Int), .int .i64 10] V.W fun e w' => e = .returned (.string ⟨(Lib.decDigits n).toArray⟩) ∧ ∃ V' : ExtW wr, w' = V'.W := fun n hn V => by
    refine (fmt_any n hn V.W ((ht.ext hB).ext V.h)).mono ?_
    rintro e w' ⟨rfl, hb⟩
    exact ⟨rfl, ⟨_, V.h.trans (hb.mono V.h.size)⟩, rfl⟩
  have C0 := hid (CX x (by omega))
  have C1 := hid (CX y (by omega))
  have i0 : IntKind.u64.wrap (x : Int) = x := by rw [IntKind.wrap_u64]; omega
  have i1 : IntKind.u64.wrap (y : Int) = y := by rw [IntKind.wrap_u64]; omega
  obtain ⟨l0, l1⟩ := printP_len hx hy
  have a0 := run_cat (Lib.decDigits x) [46] (by omega) (by simp)
  have a1 := run_cat (Lib.decDigits x ++ [46]) (Lib.decDigits y) (by simp; omega) (by omega)
  have HB := hid hB
  clear l0 l1 hB CX k0 k1
  go_enter Tryz.func24, Tryz.ntmps24
  go_wp2
  clear hwr
  refine wp_region_ext (w := wr) (Below.refl _ _) (by kernel_rfl) (by kernel_rfl) ?_
  repeat (go_big_quiet_step (first | with_reducible exact C0.out _ | with_reducible exact C1.out _))
  refine wpQuiet_nil ?_
  rintro w9 ⟨⟨_, hb9⟩, rfl⟩
  have HB9 := hid (HB.out.trans (hb9.mono HB.out.size))
  clear hb9 C0 C1 a0 a1 f0 f1
  go_wp2
  go_ret
  exact ⟨rfl, HB9.out⟩
end Go.Proofs.YtehagnbphamjhaaGreatDoor

namespace Go.Proofs.YtehagnbphamjhaaGreatDoor
open Go.RowKit
/-! ### texts of bytes: Hex of both -/
def hexD (i : Nat) : UInt8 := (([48, 49, 50, 51, 52, 53, 54, 55, 56, 57, 97, 98, 99, 100, 101, 102] : List UInt8).getD i 0)
def hexP : List Nat → Str
  | [] => []
  | b :: r => hexD (b / 16) :: hexD (b % 16) :: hexP r
theorem hexD_ne (c : UInt8) (hc : c = 32 ∨ c = 46 ∨ c = 47 ∨ c = 42) : ∀ i, i < 16 → hexD i ≠ c := by
  rcases hc with rfl | rfl | rfl | rfl <;> decide +kernel
theorem hexP_len : ∀ bs : List Nat, (hexP bs).length = 2 * bs.length
  | [] => rfl
  | b :: r => by have := hexP_len r; simp [hexP]; omega
theorem hexP_drop {bs : List Nat} {k x : Nat} (h : k < bs.length) (hx : x = bs[k]) : hexP (bs.drop k) = [hexD (x / 16)] ++ ([hexD (x % 16)] ++ hexP (bs.drop (k + 1))) := by
  rw [List.drop_eq_getElem_cons h, ← hx]; rfl
end Go.Proofs.YtehagnbphamjhaaGreatDoor

namespace Go.Proofs.YtehagnbphamjhaaGreatDoor
open Go.RowKit
/-! ### a script's texts, in plain words -/
structure StepD where
  kind : Int
  a : Int
  b : Int
  data : List Nat
deriving DecidableEq
/-- what a step's line has: its word; a second number? bytes? -/
structure Shape where
  kind : Int
  word : Str
  two : Bool
  bytes : Bool
def shapesP : List Shape :=
  [⟨1, [116, 105, 99, 107], false, false⟩, ⟨2, [100, 101, 108, 105, 118, 101, 114], false, false⟩, ⟨3, [100, 114, 111, 112], false, false⟩, ⟨4, [100, 111, 117, 98, 108, 101], false, false⟩, ⟨5, [115, 112, 111, 105, 108], true, true⟩, ⟨6, [99, 114, 97, 115, 104], false, false⟩, ⟨7, [106, 111, 105, 110], false, false⟩, ⟨8, [108, 101, 97, 118, 101], false, false⟩, ⟨9, [115, 101, 110, 100], false, true⟩, ⟨10, [114, 111, 117, 110, 100], false, false⟩, ⟨11, [97, 108, 105, 101, 110], false, true⟩, ⟨12, [112, 97, 114, 116], true, false⟩, ⟨13, [104, 101, 97, 108], false, false⟩]
def shapeK (k : Int) : Option Shape := shapesP.find? fun x => decide (x.kind = k)
def shapeW (w : Str) : Option Shape := shapesP.find? fun x => decide (x.word = w)
theorem shapes_ok : ∀ x ∈ shapesP, (32 : UInt8) ∉ x.word ∧ (10 : UInt8) ∉ x.word ∧ x.word ≠ [] ∧ x.word.length ≤ 7 ∧ shapeK x.kind = some x ∧ shapeW x.word = some x ∧ 1 ≤ x.kind ∧ x.kind ≤ 13 := by
  intro x hx
  simp only [shapesP, List.mem_cons, List.not_mem_nil, or_false] at hx
  rcases hx with rfl | rfl | rfl | rfl | rfl | rfl | rfl | rfl | rfl | rfl | rfl | rfl | rfl <;> refine ⟨by decide, by decide, by decide, by decide, rfl, rfl, by decide, by decide⟩
theorem shapeK_some {k : Int} {x : Shape} (h : shapeK k = some x) : x ∈ shapesP ∧ x.kind = k := ⟨List.mem_of_find?_eq_some h, by simpa using List.find?_some h⟩
/-- a line, by its shape -/
def lineS (x : Shape) (s : StepD) : Str := x.word ++ 32 :: Lib.itoa s.a ++ (if x.two = true then 32 :: Lib.itoa s.b else []) ++ (if x.bytes = true then 32 :: 120 :: hexP s.data else [])
def lineP (s : StepD) : Option Str :=
  match shapeK s.kind with
  | none => none
  | some x => if (x.two = false ∧ s.b ≠ 0) ∨ (x.bytes = false ∧ s.data ≠ []) then none else some (lineS x s ++ [10])
structure StepOk (s : StepD) : Prop where
  a1 : -9223372036854775808 ≤ s.a
  a2 : s.a ≤ 9223372036854775807
  b1 : -9223372036854775808 ≤ s.b
  b2 : s.b ≤ 9223372036854775807
  d : ∀ x ∈ s.data, x < 256
/-- a text is a step's line -/
def IsStep (t : Str) (s : StepD) : Prop := StepOk s ∧ lineP s = some (t ++ [10])
/-! split at one byte -/
theorem mem_first {c : UInt8} : ∀ {s : Str}, c ∈ s → ∃ a b, s = a ++ c :: b ∧ c ∉ a
  | [], h => by cases h
  | x :: l, h => by
    by_cases hx : c = x
    · exact ⟨[], l, by rw [hx]; rfl, by simp⟩
    · rcases List.mem_cons.1 h with h | h
      · exact absurd h hx
      · obtain ⟨a, b, e, hn⟩ := mem_first h
        exact ⟨x :: a, b, by rw [e]; rfl, by simp [hx, hn]⟩
theorem splc_no {c : UInt8} {a : Str} (h : c ∉ a) : Lib.split a [c] = [a] := by
  unfold Lib.split
  rw [Lib.count_one, List.count_eq_zero.2 h]
  rfl
theorem splc_app {c : UInt8} {a b : Str} (h : c ∉ a) : Lib.split (a ++ c :: b) [c] = a :: Lib.split b [c] := by
  have hi : Lib.index (a ++ c :: b) [c] = (a.length : Int) := by rw [index_one, at1_app h, if_pos (by simp)]
  unfold Lib.split
  rw [Lib.count_one, Lib.count_one, List.count_append, List.count_eq_zero.2 h, List.count_cons_self, Nat.zero_add, Lib.splitK, hi, if_neg (by simp)]
  simp
/-- any text is its first piece, and the rest -/
theorem splc_cases (c : UInt8) (s : Str) : (c ∉ s ∧ Lib.split s [c] = [s]) ∨ ∃ a b, c ∉ a ∧ s = a ++ c :: b ∧ Lib.split s [c] = a :: Lib.split b [c] := by
  by_cases h : c ∈ s
  · obtain ⟨a, b, e, hn⟩ := mem_first h
    exact .inr ⟨a, b, hn, e, by rw [e, splc_app hn]⟩
  · exact .inl ⟨h, splc_no h⟩
/-! numbers -/
theorem itoa_no {c : UInt8} (hc : ¬ dgOk c) (h45 : c ≠ 45) (n : Int) : c ∉ Lib.itoa n := by
  unfold Lib.itoa
  have h := fun u (e : c ∈ Lib.decDigits u) => hc (dec_ok u c e)
  split
  · simp only [List.mem_cons, not_or]; exact ⟨h45, h _⟩
  · exact h _
theorem hex_no {c : UInt8} (hc : ∀ i, i < 16 → hexD i ≠ c) : ∀ bs : List Nat, (∀ b ∈ bs, b < 256) → c ∉ hexP bs
  | [], _ => by simp [hexP]
  | b :: l, h => by
    have hb := h b (by simp)
    simp only [hexP, List.mem_cons, not_or]
    exact ⟨fun e => hc _ (by omega) e.symm, fun e => hc _ (by omega) e.symm, hex_no hc l fun x hx => h x (by simp [hx])⟩
theorem parse10_dec : ∀ (l : Str) (acc : Nat), (∀ c ∈ l, dgOk c) → valFrom acc l < 18446744073709551616 → Lib.parseUint10 acc l = .ok (valFrom acc l)
  | [], acc, _, _ => rfl
  | c :: r, acc, h, hv => by
    have hc := h c (by simp)
    unfold dgOk at hc
    have e : valFrom acc (c :: r) = valFrom (acc * 10 + (c.toNat - 48)) r := rfl
    rw [e] at hv ⊢
    have hg := val_ge r (acc * 10 + (c.toNat - 48))
    rw [Lib.parseUint10, if_pos hc, if_neg (by omega), if_neg (by omega)]
    exact parse10_dec r _ (fun x hx => h x (by simp [hx])) hv
theorem mag_dec (u : Nat) (h : u < 18446744073709551616) : Lib.parseMag (Lib.decDigits u) = .ok u := by
  unfold Lib.parseMag
  rw [if_neg (dec_ne u), parse10_dec _ _ (dec_ok u) (by rw [dec_val]; exact h), dec_val]
theorem atoi_itoa {n : Int} (h1 : -9223372036854775808 ≤ n) (h2 : n ≤ 9223372036854775807) : Lib.atoiAll (Lib.itoa n) = .ok n := by
  unfold Lib.itoa
  split
  · rename_i hn
    rw [Lib.atoiAll_minus, mag_dec _ (by omega)]
    unfold Lib.signed
    simp only []
    rw [if_neg (by omega)]
    congr 1
    omega
  · rename_i hn
    have hok := dec_ok n.toNat
    have hm := mag_dec n.toNat (by omega)
    rcases hd : Lib.decDigits n.toNat with _ | ⟨c, r⟩
    · exact absurd hd (dec_ne _)
    · rw [hd] at hok hm
      have hc := hok c (by simp)
      unfold dgOk at hc
      rw [Lib.atoiAll_plain c r (by omega) (by omega), hm]
      unfold Lib.signless
      simp only []
      rw [if_neg (by omega)]
      congr 1
      omega
end Go.Proofs.YtehagnbphamjhaaGreatDoor

namespace Go.Proofs.YtehagnbphamjhaaGreatDoor
open Go.RowKit
/-! ### the step of a line, in plain words: the program's way -/
def digX (c : UInt8) : Int := Lib.indexByte [48, 49, 50, 51, 52, 53, 54, 55, 56, 57, 97, 98, 99, 100, 101, 102] c
def bytesOfP : Str → Option (List Nat)
  | [] => some []
  | [_] => none
  | c :: d :: r => if digX c < 0 ∨ digX d < 0 then none else (bytesOfP r).map ((digX c * 16 + digX d).toNat :: ·)
def readN : List Str → Option (Int × List Str)
  | [] => none
  | t :: r => match Lib.atoiAll t with
    | .ok n => some (n, r)
    | _ => none
def readD : List Str → Option (List Nat × List Str)
  | [] => none
  | t :: r => if Lib.hasPrefix t [120] = true then (bytesOfP (t.drop 1)).map (·, r) else none
def endP (t : Str) (s : StepD) (rest : List Str) : Option StepD := if lineP s = some (t ++ [10]) ∧ rest = [] then some s else none
def dataP (t : Str) (x : Shape) (a b : Int) (rest : List Str) : Option StepD :=
  if x.bytes = true then (match readD rest with | none => none | some (d, r) => endP t ⟨x.kind, a, b, d⟩ r) else endP t ⟨x.kind, a, b, []⟩ rest
def numsP (t : Str) (x : Shape) (rest : List Str) : Option StepD :=
  match readN rest with
  | none => none
  | some (a, r) => if x.two = true then (match readN r with | none => none | some (b, r2) => dataP t x a b r2) else dataP t x a 0 r
def stepP (t : Str) : Option StepD :=
  match Lib.split t [32] with
  | [] => none
  | w :: rest => match shapeW w with
    | none => none
    | some x => numsP t x rest
theorem digX_hex : ∀ i, i < 16 → digX (hexD i) = (i : Int) := by decide +kernel
theorem digX_lt (c : UInt8) : digX c < 16 := by
  have h : ∀ c : UInt8, digX c < 16 := by
    have : ∀ n : Fin 256, digX (UInt8.ofNat n.val) < 16 := by decide +kernel
    intro c
    have h := this ⟨c.toNat, UInt8.toNat_lt c⟩
    simpa using h
  exact h c
theorem bytesOf_hex : ∀ bs : List Nat, (∀ b ∈ bs, b < 256) → bytesOfP (hexP bs) = some bs
  | [], _ => rfl
  | b :: l, h => by
    have hb := h b (by simp)
    rw [hexP, bytesOfP, digX_hex _ (by omega), digX_hex _ (by omega), if_neg (by omega), bytesOf_hex l fun x hx => h x (by simp [hx])]
    simp only [Option.map_some, Option.some.injEq, List.cons.injEq, and_true]
    omega
theorem bytesOf_lt : ∀ (s : Str) (bs : List Nat), bytesOfP s = some bs → ∀ b ∈ bs, b < 256
  | [], bs, h, b, hb => by simp [bytesOfP] at h; subst h; simp at hb
  | [_], bs, h, b, hb => by simp [bytesOfP] at h
  | c :: d :: r, bs, h, b, hb => by
    rw [bytesOfP] at h
    split at h
    · cases h
    · have h1 := digX_lt c
      have h2 := digX_lt d
      rcases hr : bytesOfP r with _ | l
      · rw [hr] at h; cases h
      · rw [hr] at h
        simp only [Option.map_some, Option.some.injEq] at h
        subst h
        rcases List.mem_cons.1 hb with rfl | hb
        · omega
        · exact bytesOf_lt r l hr b hb
theorem bytesOf_even : ∀ (s : Str) (bs : List Nat), bytesOfP s = some bs → s.length = 2 * bs.length
  | [], bs, h => by simp [bytesOfP] at h; subst h; rfl
  | [_], bs, h => by simp [bytesOfP] at h
  | c :: d :: r, bs, h => by
    rw [bytesOfP] at h
    split at h
    · cases h
    · rcases hr : bytesOfP r with _ | l
      · rw [hr] at h; cases h
      · rw [hr] at h
        simp only [Option.map_some, Option.some.injEq] at h
        subst h
        have := bytesOf_even r l hr
        simp; omega
theorem endP_some {t : Str} {s x : StepD} {r : List Str} (h : endP t s r = some x) : x = s ∧ lineP s = some (t ++ [10]) := by
  unfold endP at h
  split at h
  · rename_i h1
    exact ⟨(Option.some.inj h).symm, h1.1⟩
  · cases h
theorem readN_some {l r : List Str} {n : Int} (h : readN l = some (n, r)) : -9223372036854775808 ≤ n ∧ n ≤ 9223372036854775807 := by
  unfold readN at h
  split at h
  · cases h
  · split at h
    · rename_i m hm
      simp only [Option.some.injEq, Prod.mk.injEq] at h
      obtain ⟨rfl, rfl⟩ := h
      exact Lib.atoiAll_bounds hm
    · cases h
theorem readD_some {l r : List Str} {d : List Nat} (h : readD l = some (d, r)) : ∀ b ∈ d, b < 256 := by
  unfold readD at h
  split at h
  · cases h
  · split at h
    · rename_i u v hp
      rcases hr : bytesOfP (u.drop 1) with _ | l2
      · rw [hr] at h; cases h
      · rw [hr] at h
        simp only [Option.map_some, Option.some.injEq, Prod.mk.injEq] at h
        obtain ⟨rfl, rfl⟩ := h
        exact bytesOf_lt _ _ hr
    · cases h
theorem dataP_some {t : Str} {x : Shape} {a b : Int} {r : List Str} {s : StepD} (h : dataP t x a b r = some s) : s.kind = x.kind ∧ s.a = a ∧ s.b = b ∧ (∀ y ∈ s.data, y < 256) ∧ lineP s = some (t ++ [10]) := by
  unfold dataP at h
  split at h
  · split at h
    · cases h
    · rename_i d r2 hd
      obtain ⟨rfl, h2⟩ := endP_some h
      exact ⟨rfl, rfl, rfl, readD_some hd, h2⟩
  · obtain ⟨rfl, h2⟩ := endP_some h
    exact ⟨rfl, rfl, rfl, fun y hy => by simp at hy, h2⟩
theorem stepP_some {t : Str} {s : StepD} (h : stepP t = some s) : IsStep t s := by
  unfold stepP at h
  split at h
  · cases h
  · split at h
    · cases h
    · unfold numsP at h
      split at h
      · cases h
      · rename_i a r ha
        obtain ⟨a1, a2⟩ := readN_some ha
        split at h
        · split at h
          · cases h
          · rename_i b r2 hb
            obtain ⟨b1, b2⟩ := readN_some hb
            obtain ⟨-, e1, e2, e3, e4⟩ := dataP_some h
            exact ⟨⟨e1 ▸ a1, e1 ▸ a2, e2 ▸ b1, e2 ▸ b2, e3⟩, e4⟩
        · obtain ⟨-, e1, e2, e3, e4⟩ := dataP_some h
          exact ⟨⟨e1 ▸ a1, e1 ▸ a2, by rw [e2]; decide, by rw [e2]; decide, e3⟩, e4⟩
/-- what a line is made of -/
theorem isStep_parts {t : Str} {s : StepD} (h : IsStep t s) : ∃ x, shapeK s.kind = some x ∧ x ∈ shapesP ∧ x.kind = s.kind ∧ t = lineS x s ∧ (x.two = false → s.b = 0) ∧ (x.bytes = false → s.data = []) := by
  have hl := h.2
  unfold lineP at hl
  split at hl
  · cases hl
  · rename_i x hx
    split at hl
    · cases hl
    · rename_i hn
      have e := Option.some.inj hl
      have e := List.append_cancel_right e
      obtain ⟨h1, h2⟩ := shapeK_some hx
      refine ⟨x, hx, h1, h2, e.symm, fun h3 => ?_, fun h3 => ?_⟩
      · by_cases hb : s.b = 0
        · exact hb
        · exact absurd (.inl ⟨h3, hb⟩) hn
      · by_cases hb : s.data = []
        · exact hb
        · exact absurd (.inr ⟨h3, hb⟩) hn
theorem itoa32 (n : Int) : (32 : UInt8) ∉ Lib.itoa n := itoa_no (by unfold dgOk; decide) (by decide) n
theorem split_line {x : Shape} {s : StepD} (hx : x ∈ shapesP) (hs : StepOk s) : Lib.split (lineS x s) [32] = x.word :: Lib.itoa s.a :: ((if x.two = true then [Lib.itoa s.b] else []) ++ (if x.bytes = true then [120 :: hexP s.data] else [])) := by
  have h0 := (shapes_ok x hx).1
  have h1 := itoa32 s.a
  have h2 := itoa32 s.b
  have h3 : (32 : UInt8) ∉ (120 : UInt8) :: hexP s.data := by
    simp only [List.mem_cons, not_or]
    exact ⟨by decide, hex_no (hexD_ne 32 (.inl rfl)) _ hs.d⟩
  unfold lineS
  rw [List.append_assoc, List.append_assoc, List.cons_append, splc_app h0]
  congr 1
  cases x.two <;> cases x.bytes <;> simp only [Bool.false_eq_true, if_false, if_true, List.append_nil, List.nil_append, List.cons_append]
  · exact splc_no h1
  · rw [splc_app h1, splc_no h3]
  · rw [splc_app h1, splc_no h2]
  · rw [splc_app h1, splc_app h2, splc_no h3]
theorem stepP_of {t : Str} {s : StepD} (h : IsStep t s) : stepP t = some s := by
  obtain ⟨x, hk, hx, hxk, ht, hb, hd⟩ := isStep_parts h
  have hsh := (shapes_ok x hx).2.2.2.2.2.1
  unfold stepP
  rw [ht, split_line hx h.1, ← ht]
  simp only [hsh]
  unfold numsP
  have ra : ∀ r, readN (Lib.itoa s.a :: r) = some (s.a, r) := fun r => by simp only [readN, atoi_itoa h.1.a1 h.1.a2]
  have rb : ∀ r, readN (Lib.itoa s.b :: r) = some (s.b, r) := fun r => by simp only [readN, atoi_itoa h.1.b1 h.1.b2]
  have rd : ∀ r, readD ((120 :: hexP s.data) :: r) = some (s.data, r) := fun r => by
    unfold readD
    simp only []
    rw [if_pos (by simp [Lib.hasPrefix, List.isPrefixOf]), List.drop_succ_cons, List.drop_zero, bytesOf_hex _ h.1.d]
    rfl
  rw [ra]
  simp only []
  have hend : ∀ k a b d, k = s.kind → a = s.a → b = s.b → d = s.data → endP t ⟨k, a, b, d⟩ [] = some s := by
    rintro k a b d rfl rfl rfl rfl
    unfold endP
    rw [if_pos ⟨h.2, rfl⟩]
  cases h2 : x.two <;> cases h3 : x.bytes <;> simp only [Bool.false_eq_true, if_false, if_true, List.append_nil, List.nil_append, List.cons_append]
  · unfold dataP
    rw [h3, if_neg (by decide)]
    exact hend _ _ _ _ hxk rfl (hb h2).symm (hd h3).symm
  · unfold dataP
    rw [h3, if_pos rfl, rd]
    exact hend _ _ _ _ hxk rfl (hb h2).symm rfl
  · rw [rb]
    unfold dataP
    simp only [h3, Bool.false_eq_true, if_false]
    exact hend _ _ _ _ hxk rfl rfl (hd h3).symm
  · rw [rb]
    unfold dataP
    simp only [h3, if_true, rd]
    exact hend _ _ _ _ hxk rfl rfl rfl
end Go.Proofs.YtehagnbphamjhaaGreatDoor

namespace Go.Proofs.YtehagnbphamjhaaGreatDoor
open Go.RowKit
/-! ### the step of a line: the document's way -/
/-- what digits spell, whatever stands between them -/
def valN (s : Str) : Nat := s.foldl (fun n c => if 48 ≤ c.toNat ∧ c.toNat ≤ 57 then (n * 10 + (c.toNat - 48)) % 18446744073709551616 else n) 0
def valI (n : Nat) : Int := if n < 9223372036854775808 then (n : Int) else (n : Int) - 18446744073709551616
def valR (s : Str) : Int := if s.head? = some 45 then valI ((18446744073709551616 - valN s) % 18446744073709551616) else valI (valN s)
def digR (c : UInt8) : Nat := if 97 ≤ c.toNat then (c.toNat - 87) % 256 else (c.toNat + 208) % 256
def unhexR : Str → List Nat
  | c :: d :: r => ((digR c * 16 + digR d) % 256) :: unhexR r
  | _ => []
def numR2 (x : Shape) : Nat := (if x.two = true then 1 else 0) + (if x.bytes = true then 1 else 0)
def readR (x : Shape) (p : List Str) : StepD := ⟨x.kind, valR (p.getD 1 []), if x.two = true then valR (p.getD 2 []) else 0, if x.bytes = true then unhexR ((p.getD (p.length - 1) []).drop 1) else []⟩
def stepR (t : Str) : Option StepD :=
  match shapeW ((Lib.split t [32]).getD 0 []) with
  | none => none
  | some x => if (Lib.split t [32]).length = 2 + numR2 x ∧ lineP (readR x (Lib.split t [32])) = some (t ++ [10]) then some (readR x (Lib.split t [32])) else none
theorem valN_from : ∀ (s : Str) (n : Nat), (∀ c ∈ s, dgOk c) → valFrom n s < 18446744073709551616 → s.foldl (fun n c => if 48 ≤ c.toNat ∧ c.toNat ≤ 57 then (n * 10 + (c.toNat - 48)) % 18446744073709551616 else n) n = valFrom n s
  | [], n, _, _ => rfl
  | c :: r, n, h, hv => by
    have hc := h c (by simp)
    unfold dgOk at hc
    have e : valFrom n (c :: r) = valFrom (n * 10 + (c.toNat - 48)) r := rfl
    rw [e] at hv ⊢
    have hg := val_ge r (n * 10 + (c.toNat - 48))
    rw [List.foldl_cons, if_pos hc, Nat.mod_eq_of_lt (by omega)]
    exact valN_from r _ (fun x hx => h x (by simp [hx])) hv
theorem valN_dec (u : Nat) (h : u < 18446744073709551616) : valN (Lib.decDigits u) = u := by
  unfold valN
  rw [valN_from _ _ (dec_ok u) (by rw [dec_val]; exact h), dec_val]
theorem valR_itoa {n : Int} (h1 : -9223372036854775808 ≤ n) (h2 : n ≤ 9223372036854775807) : valR (Lib.itoa n) = n := by
  unfold Lib.itoa
  split
  · rename_i hn
    unfold valR
    rw [if_pos (show (45 :: Lib.decDigits n.natAbs).head? = some 45 from rfl)]
    have e : valN (45 :: Lib.decDigits n.natAbs) = n.natAbs := by
      have := valN_dec n.natAbs (by omega)
      unfold valN at this ⊢
      rw [List.foldl_cons, if_neg (by decide)]
      exact this
    rw [e, Nat.mod_eq_of_lt (by omega)]
    unfold valI
    split <;> omega
  · rename_i hn
    have hok := dec_ok n.toNat
    have hv := valN_dec n.toNat (by omega)
    unfold valR
    rw [if_neg, hv]
    · unfold valI
      rw [if_pos (by omega)]; omega
    · intro e
      have hm := hok 45 (List.mem_of_head? e)
      unfold dgOk at hm
      have : (45 : UInt8).toNat = 45 := rfl
      omega
theorem digR_hex : ∀ i, i < 16 → digR (hexD i) = i := by decide +kernel
theorem unhexR_hex : ∀ bs : List Nat, (∀ b ∈ bs, b < 256) → unhexR (hexP bs) = bs
  | [], _ => rfl
  | b :: l, h => by
    have hb := h b (by simp)
    rw [hexP, unhexR, digR_hex _ (by omega), digR_hex _ (by omega), unhexR_hex l fun x hx => h x (by simp [hx])]
    congr 1
    omega
theorem unhexR_lt : ∀ (s : Str), ∀ b ∈ unhexR s, b < 256
  | [], b, h => by simp [unhexR] at h
  | [_], b, h => by simp [unhexR] at h
  | c :: d :: r, b, h => by
    rw [unhexR] at h
    rcases List.mem_cons.1 h with rfl | h
    · omega
    · exact unhexR_lt r b h
theorem valI_b (n : Nat) (h : n < 18446744073709551616) : -9223372036854775808 ≤ valI n ∧ valI n ≤ 9223372036854775807 := by
  unfold valI
  split <;> omega
theorem valN_lt (s : Str) : valN s < 18446744073709551616 := by
  unfold valN
  have : ∀ (s : Str) (n : Nat), n < 18446744073709551616 → s.foldl (fun n c => if 48 ≤ c.toNat ∧ c.toNat ≤ 57 then (n * 10 + (c.toNat - 48)) % 18446744073709551616 else n) n < 18446744073709551616 := by
    intro s
    induction s with
    | nil => exact fun n h => h
    | cons c r ih =>
      intro n h
      rw [List.foldl_cons]
      apply ih
      split
      · omega
      · exact h
  exact this s 0 (by decide)
theorem valR_b (s : Str) : -9223372036854775808 ≤ valR s ∧ valR s ≤ 9223372036854775807 := by
  unfold valR
  split
  · exact valI_b _ (by omega)
  · exact valI_b _ (valN_lt s)
theorem readR_ok (x : Shape) (p : List Str) : StepOk (readR x p) := by
  unfold readR
  refine ⟨(valR_b _).1, (valR_b _).2, ?_, ?_, ?_⟩
  · show _ ≤ (if x.two = true then valR (p.getD 2 []) else 0)
    split
    · exact (valR_b _).1
    · decide
  · show (if x.two = true then valR (p.getD 2 []) else 0) ≤ _
    split
    · exact (valR_b _).2
    · decide
  · show ∀ y ∈ (if x.bytes = true then unhexR ((p.getD (p.length - 1) []).drop 1) else []), y < 256
    split
    · exact unhexR_lt _
    · intro y hy; simp at hy
theorem stepR_some {t : Str} {s : StepD} (h : stepR t = some s) : IsStep t s := by
  unfold stepR at h
  split at h
  · cases h
  · split at h
    · rename_i hc
      have e := Option.some.inj h
      subst e
      exact ⟨readR_ok _ _, hc.2⟩
    · cases h
theorem stepR_of {t : Str} {s : StepD} (h : IsStep t s) : stepR t = some s := by
  obtain ⟨x, hk, hx, hxk, ht, hb, hd⟩ := isStep_parts h
  have hsh := (shapes_ok x hx).2.2.2.2.2.1
  have hsp := split_line hx h.1
  rw [← ht] at hsp
  have hr : readR x (Lib.split t [32]) = s := by
    rw [hsp]
    unfold readR
    have ea := valR_itoa h.1.a1 h.1.a2
    have eb := valR_itoa h.1.b1 h.1.b2
    have ed := unhexR_hex _ h.1.d
    obtain ⟨k, a, b, d⟩ := s
    simp only at hxk ea eb ed hb hd ⊢
    cases h2 : x.two <;> cases h3 : x.bytes <;> simp only [Bool.false_eq_true, if_false, if_true, List.append_nil, List.nil_append, List.cons_append, List.getD_cons_succ, List.getD_cons_zero, List.length_cons, List.length_nil, Nat.add_sub_cancel, List.drop_succ_cons, List.drop_zero, ea, eb, ed, hxk]
    · rw [hb h2, hd h3]
    · rw [hb h2]
    · rw [hd h3]
  have hl : (Lib.split t [32]).length = 2 + numR2 x := by
    rw [hsp]
    unfold numR2
    cases x.two <;> cases x.bytes <;> rfl
  unfold stepR
  have hw : (Lib.split t [32]).getD 0 [] = x.word := by rw [hsp]; rfl
  rw [hw, hsh]
  simp only []
  rw [hr, if_pos ⟨hl, h.2⟩]
theorem step_eq (t : Str) : stepP t = stepR t := by
  rcases h : stepR t with _ | s
  · rcases h2 : stepP t with _ | s2
    · rfl
    · rw [stepR_of (stepP_some h2)] at h; cases h
  · exact stepP_of (stepR_some h)
/-! ### texts of steps -/
def mapO {α β : Type} (f : α → Option β) : List α → Option (List β)
  | [] => some []
  | x :: l => match f x with
    | none => none
    | some y => (mapO f l).map (y :: ·)
def endS : Option (List StepD) → List StepD × Nat
  | none => ([], 5)
  | some l => if 4096 < l.length then ([], 3) else (l, 0)
def parseS (s : Str) : List StepD × Nat := if s = [] then ([], 0) else if Lib.hasSuffix s [10] = true then endS (mapO stepP (Lib.split (Lib.trimSuffix s [10]) [10])) else ([], 5)
/-- the document's: each line that ends; then nothing -/
def goR : Nat → Str → Option (List StepD)
  | 0, _ => none
  | n + 1, s => if s = [] then some [] else if at1 10 s < s.length then (match stepR (s.take (at1 10 s)) with | none => none | some x => (goR n (s.drop (at1 10 s + 1))).map (x :: ·)) else none
def parseRS (s : Str) : List StepD × Nat := endS (goR (s.length + 1) s)
def printS (l : List StepD) : Str × Nat := if 4096 < l.length then ([], 3) else match mapO lineP l with
  | none => ([], 1)
  | some ls => (ls.flatten, 0)
theorem at1_no10 {a : Str} (h : (10 : UInt8) ∉ a) : at1 10 a = a.length := by
  unfold at1
  rw [List.findIdx_eq_length]
  intro x hx
  exact beq_eq_false_iff_ne.2 (fun e => h (e ▸ hx))
theorem goR_line {n : Nat} {a b : Str} (h : (10 : UInt8) ∉ a) : goR (n + 1) (a ++ 10 :: b) = match stepR a with | none => none | some x => (goR n b).map (x :: ·) := by
  rw [goR, if_neg (by simp), at1_app h, if_pos (by simp)]
  simp
theorem goR_split : ∀ (n : Nat) (s : Str), s.length + 1 < n → goR n (s ++ [10]) = mapO stepR (Lib.split s [10])
  | 0, s, h => by omega
  | n + 1, s, h => by
    rcases splc_cases 10 s with ⟨hn, hs⟩ | ⟨a, b, hn, e, hs⟩
    · rw [hs, goR_line hn, mapO, mapO]
      cases n with
      | zero => omega
      | succ n => rcases stepR s with _ | x <;> simp [goR]
    · rw [hs, e, List.append_assoc, List.cons_append, goR_line hn, mapO]
      rw [goR_split n b (by rw [e] at h; simp at h; omega)]
      rcases stepR a with _ | x <;> rfl
theorem goR_open : ∀ (n : Nat) (s : Str), s.length < n → s ≠ [] → s.getLast? ≠ some 10 → goR n s = none
  | 0, s, h, _, _ => by omega
  | n + 1, s, h, h0, h1 => by
    rcases splc_cases 10 s with ⟨hn, hs⟩ | ⟨a, b, hn, e, hs⟩
    · rw [goR, if_neg h0, at1_no10 hn, if_neg (by omega)]
    · rw [e, goR_line hn]
      have hb : b ≠ [] := by rintro rfl; exact h1 (by rw [e]; simp)
      have hl : b.getLast? ≠ some 10 := by
        rw [e] at h1
        intro hc
        exact h1 (by rw [List.getLast?_append, List.getLast?_cons, hc]; rfl)
      rw [goR_open n b (by rw [e] at h; simp at h; omega) hb hl]
      rcases stepR a with _ | x <;> rfl
theorem suffix_last (s : Str) : Lib.hasSuffix s [10] = true ↔ ∃ t, s = t ++ [10] := by
  unfold Lib.hasSuffix
  rw [List.isSuffixOf_iff_suffix]
  constructor
  · rintro ⟨t, h⟩; exact ⟨t, h.symm⟩
  · rintro ⟨t, h⟩; exact ⟨t, h.symm⟩
theorem trim_last (t : Str) : Lib.trimSuffix (t ++ [10]) [10] = t := by
  unfold Lib.trimSuffix
  rw [if_pos ((suffix_last _).2 ⟨t, rfl⟩)]
  simp
theorem mapO_congr {α β : Type} {f g : α → Option β} (h : ∀ x, f x = g x) : ∀ l, mapO f l = mapO g l
  | [] => rfl
  | x :: l => by rw [mapO, mapO, h x, mapO_congr h l]
theorem parse_same (s : Str) : parseS s = parseRS s := by
  unfold parseS parseRS
  by_cases h0 : s = []
  · subst h0; rw [if_pos rfl]; rfl
  · rw [if_neg h0]
    by_cases h1 : Lib.hasSuffix s [10] = true
    · obtain ⟨t, rfl⟩ := (suffix_last s).1 h1
      rw [if_pos h1, trim_last, goR_split _ t (by simp), mapO_congr step_eq]
    · rw [if_neg h1, goR_open _ s (by omega) h0]
      · rfl
      · intro hl
        apply h1
        rw [suffix_last]
        obtain ⟨t, ht⟩ := List.getLast?_eq_some_iff.1 hl
        exact ⟨t, ht⟩
end Go.Proofs.YtehagnbphamjhaaGreatDoor

namespace Go.Proofs.YtehagnbphamjhaaGreatDoor
open Go.RowKit
/-! ### what is printed is read as it was; what is read is printed as it was -/
theorem hexD_ne10 : ∀ i, i < 16 → hexD i ≠ 10 := by decide +kernel
theorem line_no10 {t : Str} {s : StepD} (h : IsStep t s) : (10 : UInt8) ∉ t := by
  obtain ⟨x, hk, hx, hxk, ht, hb, hd⟩ := isStep_parts h
  have h0 := (shapes_ok x hx).2.1
  have h1 : ∀ n, (10 : UInt8) ∉ Lib.itoa n := fun n => itoa_no (by unfold dgOk; decide) (by decide) n
  have h2 := hex_no hexD_ne10 _ h.1.d
  rw [ht]
  unfold lineS
  intro hm
  cases h3 : x.two <;> cases h4 : x.bytes <;> simp [h3, h4, h0, h1, h2] at hm
theorem line_end {s : StepD} {u : Str} (h : lineP s = some u) : ∃ t, u = t ++ [10] := by
  unfold lineP at h
  split at h
  · cases h
  · split at h
    · cases h
    · exact ⟨_, (Option.some.inj h).symm⟩
theorem goR_print : ∀ (l : List StepD) (ls : List Str) (n : Nat), (∀ x ∈ l, StepOk x) → mapO lineP l = some ls → ls.flatten.length < n → goR n ls.flatten = some l
  | [], ls, n, _, h, hn => by
    simp only [mapO, Option.some.injEq] at h
    subst h
    cases n with
    | zero => simp at hn
    | succ n => rw [goR, List.flatten_nil, if_pos rfl]
  | x :: l, ls, n, hok, h, hn => by
    rw [mapO] at h
    rcases hx : lineP x with _ | u
    · rw [hx] at h; cases h
    · rcases hl : mapO lineP l with _ | us
      · rw [hx, hl] at h; cases h
      · rw [hx, hl] at h
        simp only [Option.map_some, Option.some.injEq] at h
        subst h
        obtain ⟨t, rfl⟩ := line_end hx
        have his : IsStep t x := ⟨hok x (by simp), hx⟩
        cases n with
        | zero => omega
        | succ n =>
          rw [List.flatten_cons, List.append_assoc, List.cons_append, List.nil_append, goR_line (line_no10 his), stepR_of his]
          simp only []
          rw [goR_print l us n (fun y hy => hok y (by simp [hy])) hl (by simp only [List.flatten_cons, List.length_append, List.length_cons, List.length_nil] at hn; omega)]
          rfl
theorem goR_read : ∀ (n : Nat) (s : Str) (l : List StepD), goR n s = some l → ∃ ls, mapO lineP l = some ls ∧ ls.flatten = s
  | 0, s, l, h => by cases h
  | n + 1, s, l, h => by
    rcases splc_cases 10 s with ⟨hn, -⟩ | ⟨a, b, hn, e, -⟩
    · rw [goR] at h
      split at h
      · rename_i h0
        have := Option.some.inj h
        subst this
        exact ⟨[], rfl, h0.symm⟩
      · rw [at1_no10 hn, if_neg (by omega)] at h
        cases h
    · rw [e, goR_line hn] at h
      rcases hx : stepR a with _ | x
      · rw [hx] at h; cases h
      · rw [hx] at h
        simp only [] at h
        rcases hg : goR n b with _ | l2
        · rw [hg] at h; cases h
        · rw [hg] at h
          simp only [Option.map_some, Option.some.injEq] at h
          subst h
          obtain ⟨ls, h1, h2⟩ := goR_read n b l2 hg
          refine ⟨(a ++ [10]) :: ls, ?_, ?_⟩
          · rw [mapO, (stepR_some hx).2, h1]; rfl
          · rw [List.flatten_cons, h2, e]; simp
theorem printS_parseS {l : List StepD} {t : Str} (hok : ∀ x ∈ l, StepOk x) (h : printS l = (t, 0)) : parseS t = (l, 0) := by
  unfold printS at h
  split at h
  · cases h
  · rename_i hl
    rcases hm : mapO lineP l with _ | ls
    · rw [hm] at h; cases h
    · rw [hm] at h
      simp only [Prod.mk.injEq, and_true] at h
      subst h
      rw [parse_same]
      unfold parseRS
      rw [goR_print l ls _ hok hm (by omega)]
      unfold endS
      simp only []
      rw [if_neg hl]
theorem parseS_printS {l : List StepD} {s : Str} (h : parseS s = (l, 0)) : printS l = (s, 0) := by
  rw [parse_same] at h
  unfold parseRS at h
  rcases hg : goR (s.length + 1) s with _ | l2
  · rw [hg] at h; cases h
  · rw [hg] at h
    unfold endS at h
    simp only [] at h
    split at h
    · cases h
    · rename_i hl
      simp only [Prod.mk.injEq, and_true] at h
      subst h
      obtain ⟨ls, h1, h2⟩ := goR_read _ _ _ hg
      unfold printS
      rw [if_neg hl, h1, ← h2]
end Go.Proofs.YtehagnbphamjhaaGreatDoor

namespace Go.Proofs.YtehagnbphamjhaaGreatDoor
open Go.RowKit
/-! ### the storm, in plain words -/
theorem d0 : ∀ b ∈ ([] : List Nat), b < 256 := fun b h => by cases h
end Go.Proofs.YtehagnbphamjhaaGreatDoor

namespace Go.Proofs.YtehagnbphamjhaaGreatDoor
open Go.RowKit Go.Deep Go.Joins Go.ChangeShapes
/-! ### steps and lives, in the heap, and as the row reads them -/
structure BytesOk (w : World) (a : Option Addr) (bs : List Nat) : Prop where
  row : ByteRow w a bs
  lt : ∀ x ∈ bs, x < 256
theorem BytesOk.ext {w w' : World} {a : Option Addr} {bs : List Nat} (h : BytesOk w a bs) (hb : Below w.heap.size w w') : BytesOk w' a bs := ⟨h.row.ext hb, h.lt⟩
def stepC (s : StepD) (a : Option Addr) (c : Nat) : List Value := [.int .i64 s.kind, .int .i64 s.a, .int .i64 s.b, .slice a s.data.length c]
structure StepR (w : World) (a : Option Addr) (s : StepD) : Prop where
  k : -9223372036854775808 ≤ s.kind ∧ s.kind ≤ 9223372036854775807
  ok : StepOk s
  row : ByteRow w a s.data
theorem StepR.ext {w w' : World} {a : Option Addr} {s : StepD} (h : StepR w a s) (hb : Below w.heap.size w w') : StepR w' a s := ⟨h.k, h.ok, h.row.ext hb⟩
def StepRow (w : World) (a : Option Addr) (xs : List StepD) : Prop :=
  xs = [] ∨ ∃ b off, a = some ⟨b, off, none⟩ ∧ b < w.heap.size ∧ ∀ i (h : i < xs.length), ∃ ai ci, (∀ j u, (stepC xs[i] ai ci)[j]? = some u → w.cell? ⟨b, off + i * 4 + j, none⟩ = some u) ∧ StepR w ai xs[i]
theorem StepRow.ext {w w' : World} {a : Option Addr} {xs : List StepD} (h : StepRow w a xs) (hb : Below w.heap.size w w') : StepRow w' a xs := by
  rcases h with rfl | ⟨b, off, rfl, hlt, hc⟩
  · exact .inl rfl
  · refine .inr ⟨b, off, rfl, by have := hb.size; omega, fun i hi => ?_⟩
    obtain ⟨ai, ci, h1, h2⟩ := hc i hi
    exact ⟨ai, ci, fun j u hu => by rw [hb.cell (by exact hlt)]; exact h1 j u hu, h2.ext hb⟩
theorem StepRow.at {w : World} {a : Option Addr} {xs : List StepD} (h : StepRow w a xs) {k : Nat} (hk : k < xs.length) :
    ∃ b off ai ci, a = some ⟨b, off, none⟩ ∧ b < w.heap.size ∧ (∀ j u, (stepC xs[k] ai ci)[j]? = some u → w.cell? ⟨b, off + k * 4 + j, none⟩ = some u) ∧ StepR w ai xs[k] := by
  rcases h with rfl | ⟨b, off, rfl, hlt, hc⟩
  · simp at hk
  · obtain ⟨ai, ci, h1, h2⟩ := hc k hk
    exact ⟨b, off, ai, ci, rfl, hlt, h1, h2⟩
theorem StepRow.cells {w : World} {a : Option Addr} {xs : List StepD} (h : StepRow w a xs) {k : Nat} (hk : k < xs.length) {s : StepD} (hs : xs[k] = s) :
    ∃ b off ai ci, a = some ⟨b, off, none⟩ ∧ b < w.heap.size ∧ w.cell? ⟨b, off + k * 4, none⟩ = some (.int .i64 s.kind) ∧ w.cell? ⟨b, off + k * 4 + 1, none⟩ = some (.int .i64 s.a) ∧ w.cell? ⟨b, off + k * 4 + 2, none⟩ = some (.int .i64 s.b) ∧ w.cell? ⟨b, off + k * 4 + 3, none⟩ = some (.slice ai s.data.length ci) ∧ StepR w ai s := by
  subst hs
  obtain ⟨b, off, ai, ci, h1, h2, h3, h4⟩ := h.at hk
  exact ⟨b, off, ai, ci, h1, h2, h3 0 _ rfl, h3 1 _ rfl, h3 2 _ rfl, h3 3 _ rfl, h4⟩
/-- an event -/
structure EvX where
  kind : Int
  V : View
  fr : Pid
  num : Nat
  data : List Nat
structure EvA where
  am : Option Addr
  al : Option Addr
  ad : Option Addr
  a : Option Addr
  cm : Nat
  cl : Nat
  cd : Nat
  c : Nat
def evC (x : EvX) (A : EvA) : List Value := [.int .i64 x.kind, .int .u64 x.V.id, .slice A.am x.V.ms.length A.cm, .slice A.al x.V.ls.length A.cl, .slice A.ad x.V.ds.length A.cd, .int .u16 x.fr.1, .int .u32 x.fr.2, .int .u64 x.num, .slice A.a x.data.length A.c]
structure EvR (w : World) (A : EvA) (x : EvX) : Prop where
  k : -9223372036854775808 ≤ x.kind ∧ x.kind ≤ 9223372036854775807
  view : ViewR w A.am A.al A.ad x.V
  wf : WfView x.V
  fr : okP x.fr
  num : x.num < 18446744073709551616
  row : ByteRow w A.a x.data
  lt : ∀ b ∈ x.data, b < 256
theorem EvR.ext {w w' : World} {A : EvA} {x : EvX} (h : EvR w A x) (hb : Below w.heap.size w w') : EvR w' A x := ⟨h.k, h.view.ext hb, h.wf, h.fr, h.num, h.row.ext hb, h.lt⟩
def EvRow (w : World) (a : Option Addr) (xs : List EvX) : Prop :=
  xs = [] ∨ ∃ b off, a = some ⟨b, off, none⟩ ∧ b < w.heap.size ∧ ∀ i (h : i < xs.length), ∃ A, (∀ j u, (evC xs[i] A)[j]? = some u → w.cell? ⟨b, off + i * 9 + j, none⟩ = some u) ∧ EvR w A xs[i]
theorem EvRow.ext {w w' : World} {a : Option Addr} {xs : List EvX} (h : EvRow w a xs) (hb : Below w.heap.size w w') : EvRow w' a xs := by
  rcases h with rfl | ⟨b, off, rfl, hlt, hc⟩
  · exact .inl rfl
  · refine .inr ⟨b, off, rfl, by have := hb.size; omega, fun i hi => ?_⟩
    obtain ⟨A, h1, h2⟩ := hc i hi
    exact ⟨A, fun j u hu => by rw [hb.cell (by exact hlt)]; exact h1 j u hu, h2.ext hb⟩
theorem EvRow.at {w : World} {a : Option Addr} {xs : List EvX} (h : EvRow w a xs) {k : Nat} (hk : k < xs.length) :
    ∃ b off A, a = some ⟨b, off, none⟩ ∧ b < w.heap.size ∧ (∀ j u, (evC xs[k] A)[j]? = some u → w.cell? ⟨b, off + k * 9 + j, none⟩ = some u) ∧ EvR w A xs[k] := by
  rcases h with rfl | ⟨b, off, rfl, hlt, hc⟩
  · simp at hk
  · obtain ⟨A, h1, h2⟩ := hc k hk
    exact ⟨b, off, A, rfl, hlt, h1, h2⟩
/-- a life -/
structure LvX where
  p : Pid
  l : List EvX
structure LvR (w : World) (a : Option Addr) (x : LvX) : Prop where
  p : okP x.p
  row : EvRow w a x.l
theorem LvR.ext {w w' : World} {a : Option Addr} {x : LvX} (h : LvR w a x) (hb : Below w.heap.size w w') : LvR w' a x := ⟨h.p, h.row.ext hb⟩
def LvRow (w : World) (a : Option Addr) (xs : List LvX) : Prop :=
  xs = [] ∨ ∃ b off, a = some ⟨b, off, none⟩ ∧ b < w.heap.size ∧ ∀ i (h : i < xs.length), ∃ ai ci, (w.cell? ⟨b, off + i * 3, none⟩ = some (.int .u16 xs[i].p.1) ∧ w.cell? ⟨b, off + i * 3 + 1, none⟩ = some (.int .u32 xs[i].p.2) ∧ w.cell? ⟨b, off + i * 3 + 2, none⟩ = some (.slice ai xs[i].l.length ci)) ∧ xs[i].l.length ≤ ci ∧ LvR w ai xs[i]
theorem LvRow.ext {w w' : World} {a : Option Addr} {xs : List LvX} (h : LvRow w a xs) (hb : Below w.heap.size w w') : LvRow w' a xs := by
  rcases h with rfl | ⟨b, off, rfl, hlt, hc⟩
  · exact .inl rfl
  · refine .inr ⟨b, off, rfl, by have := hb.size; omega, fun i hi => ?_⟩
    obtain ⟨ai, ci, ⟨h1, h2, h3⟩, h4, h5⟩ := hc i hi
    exact ⟨ai, ci, ⟨by rw [hb.cell (by exact hlt)]; exact h1, by rw [hb.cell (by exact hlt)]; exact h2, by rw [hb.cell (by exact hlt)]; exact h3⟩, h4, h5.ext hb⟩
theorem LvRow.at {w : World} {a : Option Addr} {xs : List LvX} (h : LvRow w a xs) {k : Nat} (hk : k < xs.length) :
    ∃ b off ai ci, a = some ⟨b, off, none⟩ ∧ b < w.heap.size ∧ w.cell? ⟨b, off + k * 3, none⟩ = some (.int .u16 xs[k].p.1) ∧ w.cell? ⟨b, off + k * 3 + 1, none⟩ = some (.int .u32 xs[k].p.2) ∧ w.cell? ⟨b, off + k * 3 + 2, none⟩ = some (.slice ai xs[k].l.length ci) ∧ xs[k].l.length ≤ ci ∧ LvR w ai xs[k] := by
  rcases h with rfl | ⟨b, off, rfl, hlt, hc⟩
  · simp at hk
  · obtain ⟨ai, ci, ⟨h1, h2, h3⟩, h4, h5⟩ := hc k hk
    exact ⟨b, off, ai, ci, rfl, hlt, h1, h2, h3, h4, h5⟩
end Go.Proofs.YtehagnbphamjhaaGreatDoor

namespace Go.Proofs.YtehagnbphamjhaaGreatDoor
open Go.RowKit Go.Deep Go.Joins Go.ChangeShapes
/-! ### openings: steps, lives -/
theorem cellsStepO : Tryz.prog.cellsOf 62 = 4 := by kernel_rfl
theorem bytesStepO : Tryz.prog.bytesOf 62 = 48 := by kernel_rfl
theorem cellsBytesO : Tryz.prog.cellsOf 55 = 1 := by kernel_rfl
theorem cellsIntO : Tryz.prog.cellsOf 3 = 1 := by kernel_rfl
section
variable {H : Type} {enc : TypeId × Value → H} {w : World}
set_option maxRecDepth 100000 in
theorem open_stepK {n : Nat} {cs : List Value} {x : DataW H × List MemPlace} (h : DataW.trod enc Tryz.prog w 0 (fun _ => true) true n 62 cs = some x) :
    ∃ (s : StepD) (a : Option Addr) (c : Nat), cs = stepC s a c ∧ StepR w a s := by
  obtain ⟨y0, y1, y2, y3, m, hx, hl, h0, h1, h2, h3⟩ := trod_struct4 Tryz.underlying62 h
  rw [cellsStepO] at hl
  obtain ⟨v0, v1, v2, v3, rfl⟩ := list4 hl
  have e0 : (([v0, v1, v2, v3] : List Value).drop 0).take (Tryz.prog.cellsOf 3) = [v0] := by rw [cellsIntO]; rfl
  have e1 : (([v0, v1, v2, v3] : List Value).drop 1).take (Tryz.prog.cellsOf 3) = [v1] := by rw [cellsIntO]; rfl
  have e2 : (([v0, v1, v2, v3] : List Value).drop 2).take (Tryz.prog.cellsOf 3) = [v2] := by rw [cellsIntO]; rfl
  have e3 : (([v0, v1, v2, v3] : List Value).drop 3).take (Tryz.prog.cellsOf 55) = [v3] := by rw [cellsBytesO]; rfl
  have h0 := e0 ▸ h0
  have h1 := e1 ▸ h1
  have h2 := e2 ▸ h2
  have h3 := e3 ▸ h3
  obtain ⟨i0, hi0, _, wi0⟩ := DataW.trod_int Tryz.underlying3 h0
  obtain ⟨i1, hi1, _, wi1⟩ := DataW.trod_int Tryz.underlying3 h1
  obtain ⟨i2, hi2, _, wi2⟩ := DataW.trod_int Tryz.underlying3 h2
  obtain ⟨a, c, bs, hcs, hr, hb, -⟩ := open_bytesK h3
  cases hi0; cases hi1; cases hi2; cases hcs
  have k0 := bounds_i64 wi0
  have k1 := bounds_i64 wi1
  have k2 := bounds_i64 wi2
  exact ⟨⟨i0, i1, i2, bs⟩, a, c, rfl, ⟨⟨by simp only; omega, by simp only; omega⟩, ⟨by simp only; omega, by simp only; omega, by simp only; omega, by simp only; omega, hb⟩, hr⟩⟩
set_option maxRecDepth 100000 in
theorem open_steps {base : Nat} {v : Value} {d : DataW H} {p : List MemPlace} (hv : Value.okWide Tryz.prog w .any base 28 v) (h : DataW.Trod enc Tryz.prog w 0 (fun _ => true) true 28 v d p) (hs : Sz 28 d) :
    ∃ (a : Option Addr) (c : Nat) (xs : List StepD), v = .slice a xs.length c ∧ StepRow w a xs ∧ xs.length ≤ c ∧ xs.length ≤ 17592186044416 := by
  obtain ⟨a0, len0, cap0, rfl⟩ := Go.WideShapes.okWide_slice Tryz.underlying28 hv
  obtain ⟨fuel, hf⟩ := h
  rcases open_slice (x := (d, p)) Tryz.underlying28 (by simpa [Value.cells] using hf) with ⟨hcs, _⟩ | ⟨a, len, cap, m, k, D, Pl, hcs, _, hl, hm, hmm, hx, hel⟩
  · cases hcs
    exact ⟨none, 0, [], rfl, .inl rfl, Nat.le_refl _, by simp⟩
  · cases hcs
    simp only [if_true] at hmm
    subst hmm
    cases hx
    obtain ⟨hw, -⟩ := hs.slice Tryz.underlying28
    rw [bytesStepO] at hw
    have hlen : len0 ≤ 17592186044416 := by simp at hw; unfold reachBytes at hw; omega
    rw [cellsStepO] at hel
    have hex : ∀ i, ∃ A : StepD, i < len0 → ∃ ai ci, (∀ j u, (stepC A ai ci)[j]? = some u → w.cell? ((a.add (i * 4)).add j) = some u) ∧ StepR w ai A := by
      intro i
      by_cases hi : i < len0
      · obtain ⟨cs', h1, h2⟩ := hel i (by omega)
        obtain ⟨A, ai, ci, rfl, hA⟩ := open_stepK h2
        obtain ⟨_, _, hc⟩ := World.cells?_some h1
        refine ⟨A, fun _ => ⟨ai, ci, fun j u hu => ?_, hA⟩⟩
        have hj := (List.getElem?_eq_some_iff.1 hu).1
        have := hc j (by simpa [stepC] using hj)
        rw [this]
        exact hu
      · exact ⟨⟨0, 0, 0, []⟩, fun h => absurd h hi⟩
    obtain ⟨f, hf⟩ := Classical.axiomOfChoice hex
    refine ⟨some a, m, (List.range len0).map f, by simp, ?_, by simpa using hl, by simpa using hlen⟩
    by_cases h0 : len0 = 0
    · subst h0; exact .inl rfl
    · obtain ⟨_, _, ha, _⟩ := hf 0 (by omega)
      have ha := ha 0 _ rfl
      have hsp : a.spot = none := by simpa [Addr.add] using World.cell?_spot ha
      obtain ⟨b, off, sp⟩ := a
      simp only at hsp
      subst hsp
      refine .inr ⟨b, off, rfl, ?_, fun i hi => ?_⟩
      · have := World.block_lt_of_cell? w _ ha
        simpa [addr_add] using this
      · have hi' : i < len0 := by simpa using hi
        obtain ⟨ai, ci, g1, g2⟩ := hf i hi'
        refine ⟨ai, ci, fun j u hu => ?_, by simpa using g2⟩
        have := g1 j u (by simpa using hu)
        simpa [addr_add] using this
end
end Go.Proofs.YtehagnbphamjhaaGreatDoor

namespace Go.Proofs.YtehagnbphamjhaaGreatDoor
open Go.RowKit
/-! ### the parts of a process: what is new -/
/-- a block with its cells, writable -/
def BoxL (w : World) (b : Nat) (t : TypeId) (cs : List Value) : Prop := w.heap[b]? = some (.cells cs.toArray t (0, 0))
section
variable {w w' : World} {b : Nat} {t : TypeId} {cs : List Value}
theorem BoxL.lt (h : BoxL w b t cs) : b < w.heap.size := (Array.getElem?_eq_some_iff.1 h).1
theorem BoxL.mut {G : Nat → Prop} (h : BoxL w b t cs) (hm : Mut G w w') (hG : ¬ G b) : BoxL w' b t cs := (hm.block b h.lt hG).trans h
theorem BoxL.ext (h : BoxL w b t cs) (hb : Below w.heap.size w w') : BoxL w' b t cs := (hb.block b h.lt).trans h
theorem BoxL.made (w : World) (t : TypeId) (cs : List Value) : BoxL (w.alloc (.cells cs.toArray t)) w.heap.size t cs := heap_alloc_new w _
theorem BoxL.madeN {n : Nat} (w : World) (t : TypeId) (cs : List Value) (h : n = w.heap.size) : BoxL (w.alloc (.cells cs.toArray t)) n t cs := by rw [h]; exact heap_alloc_new w _
theorem BoxL.cell (h : BoxL w b t cs) {j : Nat} {v : Value} (hj : cs[j]? = some v) : w.cell? ⟨b, j, none⟩ = some v := by
  rw [Lib.cell_of_heap h]; simpa using hj
theorem BoxL.frozen (h : BoxL w b t cs) (j : Nat) : w.frozen? ⟨b, j, none⟩ = false := Lib.frozen_of_heap h j
end
theorem ledgerNew_any (a : Int) (w : World) : Calls Tryz.prog 143 #[.int .u64 a] w fun e w' => e = .returned (.pointer (some ⟨w.heap.size, 0, none⟩)) ∧ w' = w.alloc (.cells #[.int .u64 a, .slice none 0 0] 298) := by
  go_enter Tryz.func143, Tryz.ntmps143
  go_wp2
  go_ret
  exact ⟨rfl, rfl⟩
theorem acceptNew_any (a : Int) (w : World) : Calls Tryz.prog 146 #[.int .u64 a] w fun e w' => e = .returned (.pointer (some ⟨w.heap.size, 0, none⟩)) ∧ w' = w.alloc (.cells #[.int .u64 a, .int .u32 0, .int .u16 0, .int .u32 0, .pointer none] 307) := by
  go_enter Tryz.func146, Tryz.ntmps146
  go_wp2
  go_ret
  exact ⟨rfl, rfl⟩
theorem electNew_any (x y : Int) (w : World) : Calls Tryz.prog 147 #[.agg #[.int .u16 x, .int .u32 y]] w fun e w' => ∃ b, e = .returned (.pointer (some ⟨b, 0, none⟩)) ∧ w.heap.size ≤ b ∧ Below w.heap.size w w' ∧ BoxL w' b 312 [.int .u16 x, .int .u32 y, .int .u32 0, .int .u16 0, .int .u32 0, .int .i64 0, .slice none 0 0, .int .u64 0, .int .u32 0, .int .u16 0, .int .u32 0, .pointer none, .int .u64 0, .int .u64 0] := by
  go_enter Tryz.func147, Tryz.ntmps147
  go_wp2
  go_ret
  exact ⟨_, rfl, by simp, ((Below.refl _ _).alloc (Nat.le_refl _) _).alloc (by simp) _, BoxL.madeN _ _ [.int .u16 x, .int .u32 y, .int .u32 0, .int .u16 0, .int .u32 0, .int .i64 0, .slice none 0 0, .int .u64 0, .int .u32 0, .int .u16 0, .int .u32 0, .pointer none, .int .u64 0, .int .u64 0] (by simp)⟩
theorem queueNew_any (a : Int) (w : World) : Calls Tryz.prog 200 #[.int .u64 a] w fun e w' => e = .returned (.pointer (some ⟨w.heap.size, 0, none⟩)) ∧ w' = w.alloc (.cells #[.int .u64 a, .int .u64 0, .slice none 0 0] 387) := by
  go_enter Tryz.func200, Tryz.ntmps200
  go_wp2
  go_ret
  exact ⟨rfl, rfl⟩
theorem flightNew_any (w : World) : Calls Tryz.prog 71 #[] w fun e w' => e = .returned (.pointer (some ⟨w.heap.size, 0, none⟩)) ∧ w' = w.alloc (.cells #[.slice none 0 0] 175) := by
  go_enter Tryz.func71, Tryz.ntmps71
  go_wp2
  go_ret
  exact ⟨rfl, rfl⟩
end Go.Proofs.YtehagnbphamjhaaGreatDoor


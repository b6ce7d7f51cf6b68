/- Parts of the proof: R3 R4 R5 P1 L1 L2 S1 X19 X20 X1 X2 X5a X7 X8 X17 X5 X6 X21. -/
import Derived.Laws.MakeOwn
import Derived.Laws.CopyOwn
import Derived.Maps.AppendAt
import Derived.Laws.BitsAllLaws
import Derived.Deep.RegionWith
import Derived.Lib.Bytes
import Derived.Test.YtppapeoainafbaaGreatDoorR2
namespace Go.Proofs.YtppapeoainafbaaGreatDoor
open Go.RowKit

def greatB (V : View) : Bool := decide (40 < V.ms.length) || (decide (40 < V.ls.length) || (decide (40 < V.ds.length) || V.ls.any fun l => decide (40 < l.length)))
theorem any_drop {ls : List (List Pid)} {k : Nat} (h : k < ls.length) {l : List Pid} (hl : l = ls[k]) (f : List Pid → Bool) : (ls.drop k).any f = (f l || (ls.drop (k + 1)).any f) := by
  rw [List.drop_eq_getElem_cons h, List.any_cons, ← hl]

set_option maxRecDepth 100000 in
set_option maxHeartbeats 800000 in
theorem great_any (V : View) (am al ad : Option Addr) (cm cl cd : Nat) (w : World) (hV : ViewR w am al ad V) :
   Calls Tryz.prog 12 #[.agg #[.int .u64 V.id, .slice am V.ms.length cm, .slice al V.ls.length cl, .slice ad V.ds.length cd]] w fun e w' => e = .returned (.bool (greatB V)) ∧ Below w.heap.size w w' := by
  have hBx : Below w.heap.size w (w.alloc (.cells #[.int .u64 V.id, .slice am V.ms.length cm, .slice al V.ls.length cl, .slice ad V.ds.length cd] 33)) := (Below.refl _ _).alloc (Nat.le_refl _) _
  have hVx := hV.ext hBx
  have hbx : ViewBox _ _ V am al ad cm cl cd := ViewBox.made w
  have hll := hV.ll
  by_cases g1 : 40 < V.ms.length
  · have k1 : decide (40 < (V.ms.length : Int)) = true := by simp; omega
    go_enter Tryz.func12, Tryz.ntmps12
    go_wp2
    go_ret
    exact ⟨ret_bool (by unfold greatB; rw [decide_eq_true g1]; rfl), hBx⟩
  · have k1 : decide (40 < (V.ms.length : Int)) = false := by simp; omega
    by_cases g2 : 40 < V.ls.length
    · have k2 : decide (40 < (V.ls.length : Int)) = true := by simp; omega
      go_enter Tryz.func12, Tryz.ntmps12
      go_wp2
      go_ret
      exact ⟨ret_bool (by unfold greatB; rw [decide_eq_false (by omega), decide_eq_true g2]; rfl), hBx⟩
    · have k2 : decide (40 < (V.ls.length : Int)) = false := by simp; omega
      by_cases g3 : 40 < V.ds.length
      · have k3 : decide (40 < (V.ds.length : Int)) = true := by simp; omega
        go_enter Tryz.func12, Tryz.ntmps12
        go_wp2
        go_ret
        exact ⟨ret_bool (by unfold greatB; rw [decide_eq_false (by omega), decide_eq_false (by omega), decide_eq_true g3]; rfl), hBx⟩
      · have k3 : decide (40 < (V.ds.length : Int)) = false := by simp; omega
        have hsp0 : Hid (greatB V = V.ls.any fun l => decide (40 < l.length)) := by
          unfold greatB Hid
          rw [decide_eq_false g1, decide_eq_false g2, decide_eq_false g3]; rfl
        go_enter Tryz.func12, Tryz.ntmps12
        go_wp2
        go_loop [2, 3] (fun rs kv => rs = .bool false ∧ ∃ k : Nat, k ≤ V.ls.length ∧ kv = .int .i64 k ∧ Hid (greatB V = (V.ls.drop k).any fun l => decide (40 < l.length))) (fun _ kv => V.ls.length - (intOf kv).toNat)
        case atStart => exact ⟨rfl, 0, Nat.zero_le _, rfl, hsp0⟩
        case round =>
          obtain ⟨rfl, k, hk, rfl, hsp⟩ := hrel
          by_cases hkt : k < V.ls.length
          · obtain ⟨bl, ofl, ai, ci, l, hal, hxl, f1, f2⟩ := hVx.ls.at (Below.refl _ _) rfl hkt
            subst hal
            have hd := any_drop hkt hxl (fun l => decide (40 < l.length))
            have HD := hid hd
            clear hd hxl
            by_cases hl : 40 < l.length
            · go_wp2
              go_ret
              exact ⟨ret_bool (by rw [hsp.out, HD.out, decide_eq_true hl]; rfl), hBx⟩
            · go_wp2
              go_round
              case rel => exact ⟨rfl, k + 1, by omega, by go_num, hsp.out.trans (by rw [HD.out, decide_eq_false (by omega)]; rfl)⟩
              case measure => simp [intOf]; omega
          · go_wp2
            go_ret
            exact ⟨ret_bool (by rw [hsp.out, List.drop_eq_nil_of_le (by omega)]; rfl), hBx⟩

theorem great_is {V : View} {am al ad : Option Addr} {cm cl cd : Nat} {w : World} {bm : Bool} (h : Hid (greatB V = bm)) (hV : ViewR w am al ad V) :
   Calls Tryz.prog 12 #[.agg #[.int .u64 V.id, .slice am V.ms.length cm, .slice al V.ls.length cl, .slice ad V.ds.length cd]] w fun e w' => e = .returned (.bool bm) ∧ Below w.heap.size w w' := by
  have := great_any V am al ad cm cl cd w hV
  rw [h.out] at this
  exact this

/-! ### Quorum, Leaf, Rank -/
end Go.Proofs.YtppapeoainafbaaGreatDoor

namespace Go.Proofs.YtppapeoainafbaaGreatDoor
open Go.RowKit
set_option maxRecDepth 100000 in
set_option maxHeartbeats 800000 in
theorem leaf_any (V : View) (am al ad : Option Addr) (cm cl cd : Nat) (x y : Int) (w : World) (hV : ViewR w am al ad V) :
   Calls Tryz.prog 46 #[.agg #[.int .u64 V.id, .slice am V.ms.length cm, .slice al V.ls.length cl, .slice ad V.ds.length cd], .agg #[.int .u16 x, .int .u32 y]] w fun e w' => e = .returned (.int .i64 (leafIx V.ls (x, y))) ∧ Below w.heap.size w w' := by
  have hB2 : Below w.heap.size w ((w.alloc (.cells #[.int .u64 V.id, .slice am V.ms.length cm, .slice al V.ls.length cl, .slice ad V.ds.length cd] 33)).alloc (.cells #[.int .u16 x, .int .u32 y] 25)) := ((Below.refl _ _).alloc (Nat.le_refl _) _).alloc (by simp) _
  have hV2 := hV.ext hB2
  have k0 : ((w.alloc (.cells #[.int .u64 V.id, .slice am V.ms.length cm, .slice al V.ls.length cl, .slice ad V.ds.length cd] 33)).alloc (.cells #[.int .u16 x, .int .u32 y] 25)).cell? ⟨w.heap.size + 1, 0, none⟩ = some (.int .u16 x) := by simp
  have k1 : ((w.alloc (.cells #[.int .u64 V.id, .slice am V.ms.length cm, .slice al V.ls.length cl, .slice ad V.ds.length cd] 33)).alloc (.cells #[.int .u16 x, .int .u32 y] 25)).cell? ⟨w.heap.size + 1, 1, none⟩ = some (.int .u32 y) := by simp
  go_enter Tryz.func46, Tryz.ntmps46
  go_wp2_with (go_at_call 90; go_loud (refine (indexFunc_any _ _ _ _ _ _ _ hV.ll hV.le hV2.ls k0 k1).mono ?_); rintro e w3 ⟨rfl, hb3⟩)
  go_ret
  exact ⟨rfl, hB2.trans (hb3.mono (by simp; omega))⟩

theorem PidRow.two (w : World) (x1 y1 x2 y2 : Int) : PidRow (w.alloc (.cells #[.int .u16 x1, .int .u32 y1, .int .u16 x2, .int .u32 y2] 25)) (some ⟨w.heap.size, 0, none⟩) [(x1, y1), (x2, y2)] :=
  .inr ⟨_, 0, rfl, by simp, fun i hi => by
    match i, hi with
    | 0, _ => exact ⟨by simp, by simp⟩
    | 1, _ => exact ⟨by simp, by simp⟩⟩
theorem LeafRow.alloc {w : World} {a : Option Addr} {xs : List (List Pid)} (h : LeafRow w a xs) (o : Obj) : LeafRow (w.alloc o) a xs := h.ext ((Below.refl _ _).alloc (Nat.le_refl _) _)
theorem PidRow.alloc {w : World} {a : Option Addr} {xs : List Pid} (h : PidRow w a xs) (o : Obj) : PidRow (w.alloc o) a xs := h.ext ((Below.refl _ _).alloc (Nat.le_refl _) _)

end Go.Proofs.YtppapeoainafbaaGreatDoor

namespace Go.Proofs.YtppapeoainafbaaGreatDoor
open Go.RowKit

theorem rel {P : Program} {f : FuncId} {args : Array Value} {w0 W : World} {v v' : Value} (hb : Below w0.heap.size w0 W) (h : Calls P f args W fun e w' => e = .returned v ∧ Below W.heap.size W w') (hv : v = v') :
    Calls P f args W fun e w' => e = .returned v' ∧ Below w0.heap.size w0 w' := by
  subst hv
  exact h.mono fun _ _ ⟨h1, h2⟩ => ⟨h1, hb.trans (h2.mono hb.size)⟩

end Go.Proofs.YtppapeoainafbaaGreatDoor

namespace Go.Proofs.YtppapeoainafbaaGreatDoor

/-! ## the plain law: view.Check answers as the document says -/
def keys {α β : Type} (L : List (α × β)) : List α := L.map (·.1)
theorem look_isSome {α β : Type} [DecidableEq α] {x : α} : ∀ {L : List (α × β)}, (look x L).isSome = true ↔ x ∈ keys L
  | [] => by simp [look, keys]
  | p :: l => by
    have ih := look_isSome (x := x) (L := l)
    have e : look x (p :: l) = if x = p.1 then some p.2 else look x l := rfl
    have ek : keys (p :: l) = p.1 :: keys l := rfl
    rw [e, ek, List.mem_cons, ← ih]
    by_cases h : x = p.1 <;> simp [h]
theorem ins_len {α β : Type} [DecidableEq α] {x : α} {v : β} : ∀ {L : List (α × β)}, x ∉ keys L → ins x v L = L ++ [(x, v)]
  | [], _ => rfl
  | p :: l, h => by
    simp only [keys, List.map_cons, List.mem_cons, not_or] at h
    simp only [ins, if_neg h.1, List.cons_append]
    rw [ins_len h.2]
theorem look_ins {α β : Type} [DecidableEq α] {x y : α} {v : β} : ∀ {L : List (α × β)}, look x (ins y v L) = if x = y then some v else look x L
  | [] => by simp [ins, look]
  | p :: l => by
    have ih := look_ins (x := x) (y := y) (v := v) (L := l)
    simp only [ins]
    by_cases h : y = p.1
    · simp only [if_pos h, look]
      by_cases hx : x = y
      · simp [hx]
      · have : ¬ x = p.1 := fun e => hx (e.trans h.symm)
        simp [hx, this]
    · simp only [if_neg h, look, ih]
      by_cases hx : x = p.1
      · have : ¬ x = y := fun e => h (e.symm.trans hx)
        simp [hx]
        intro e; exact absurd (e.symm) (by intro e2; exact h (by rw [← e2]))
      · simp [hx]

theorem add1_of_mem {p : Pid} {L : List (Pid × Unit)} (h : p ∈ keys L) : add1 p L = L := by unfold add1; rw [if_pos (look_isSome.2 h)]
theorem add1_of_not {p : Pid} {L : List (Pid × Unit)} (h : p ∉ keys L) : add1 p L = L ++ [(p, ())] := by
  unfold add1; rw [if_neg (fun e => h (look_isSome.1 e)), ins_len h]
theorem unionL_len : ∀ (xs : List Pid) (L : List (Pid × Unit)), (unionL L xs).length ≤ L.length + xs.length ∧ ((unionL L xs).length = L.length + xs.length ↔ xs.Nodup ∧ ∀ x ∈ xs, x ∉ keys L)
  | [], L => by simp [unionL]
  | p :: l, L => by
    simp only [unionL]
    by_cases h : p ∈ keys L
    · obtain ⟨h1, h2⟩ := unionL_len l L
      rw [add1_of_mem h]
      refine ⟨by simp only [List.length_cons]; omega, ?_⟩
      constructor
      · intro e; simp only [List.length_cons] at e; omega
      · rintro ⟨_, h3⟩; exact absurd h (h3 p (List.mem_cons_self ..))
    · obtain ⟨h1, h2⟩ := unionL_len l (L ++ [(p, ())])
      rw [add1_of_not h]
      simp only [List.length_append, List.length_cons, List.length_nil] at h1 h2 ⊢
      refine ⟨by omega, ?_⟩
      have e : (unionL (L ++ [(p, ())]) l).length = L.length + (l.length + 1) ↔ (unionL (L ++ [(p, ())]) l).length = L.length + (0 + 1) + l.length := by omega
      rw [e, h2, List.nodup_cons]
      have hk : keys (L ++ [(p, ())]) = keys L ++ [p] := by simp [keys]
      rw [hk]
      simp only [List.mem_append, List.mem_cons, List.not_mem_nil, or_false, not_or]
      constructor
      · rintro ⟨a, b⟩
        exact ⟨⟨fun hp => (b p hp).2 rfl, a⟩, fun x hx => by
          rcases hx with rfl | hx
          · exact h
          · exact (b x hx).1⟩
      · rintro ⟨⟨a, b⟩, c⟩
        exact ⟨b, fun x hx => ⟨c x (.inr hx), fun e => a (e ▸ hx)⟩⟩
theorem unionL_nodup {xs : List Pid} : (unionL [] xs).length = xs.length ↔ xs.Nodup := by
  have := (unionL_len xs []).2
  simpa [keys] using this

theorem memFrom_iff {n : Nat} : ∀ {xs : List Pid} {S : List (Int × Unit)}, memFrom n S xs = true ↔ (0 < n ∧ n ≤ 24) ∧ (∀ p ∈ xs, mayB p = true) ∧ xs.Pairwise (fun p q => p.1 ≠ q.1) ∧ ∀ p ∈ xs, p.1 ∉ keys S
  | [], S => by simp [memFrom]
  | p :: l, S => by
    simp only [memFrom]
    by_cases h : p.1 ∈ keys S
    · rw [if_pos (look_isSome.2 h)]
      simp only [Bool.false_eq_true, false_iff]
      rintro ⟨_, _, _, h4⟩
      exact h4 p (List.mem_cons_self ..) h
    · rw [if_neg (fun e => h (look_isSome.1 e))]
      by_cases hm : mayB p = true
      · rw [if_pos hm, memFrom_iff, ins_len h]
        have hk : keys (S ++ [(p.1, ())]) = keys S ++ [p.1] := by simp [keys]
        rw [hk]
        simp only [List.mem_append, List.mem_cons, List.not_mem_nil, or_false, not_or, List.pairwise_cons, forall_eq_or_imp]
        constructor
        · rintro ⟨a, b, c, d⟩
          exact ⟨a, ⟨hm, b⟩, ⟨fun q hq e => (d q hq).2 e.symm, c⟩, h, fun q hq => (d q hq).1⟩
        · rintro ⟨a, ⟨_, b⟩, ⟨c, d⟩, _, e⟩
          exact ⟨a, b, d, fun q hq => ⟨e q hq, fun e2 => c q hq e2.symm⟩⟩
      · rw [if_neg hm]
        simp only [Bool.false_eq_true, false_iff]
        rintro ⟨_, b, _⟩
        exact hm (b p (List.mem_cons_self ..))

theorem refA_iff {K : Bool} : ∀ {xs pre : List Pid}, refA K (pre ++ xs) pre.length xs = true ↔ K = true ∧ (∀ p ∈ xs, mayR p = true) ∧ (∀ p ∈ xs, ∀ q ∈ pre, q.1 ≠ p.1) ∧ xs.Pairwise (fun p q => p.1 ≠ q.1)
  | [], pre => by simp [refA]
  | p :: l, pre => by
    simp only [refA, List.take_left']
    by_cases hm : mayR p = true
    · rw [if_pos hm]
      by_cases ha : pre.any (sameId p) = true
      · rw [if_pos ha]
        simp only [Bool.false_eq_true, false_iff]
        rintro ⟨_, _, c, _⟩
        obtain ⟨q, hq, e⟩ := List.any_eq_true.1 ha
        exact c p (List.mem_cons_self ..) q hq (by simpa [sameId] using e)
      · rw [if_neg ha]
        have ih := refA_iff (K := K) (xs := l) (pre := pre ++ [p])
        simp only [List.append_assoc, List.cons_append, List.nil_append, List.length_append, List.length_cons, List.length_nil, Nat.zero_add] at ih
        rw [ih]
        have hpre : ∀ q ∈ pre, q.1 ≠ p.1 := fun q hq e => ha (List.any_eq_true.2 ⟨q, hq, by simpa [sameId] using e⟩)
        simp only [List.mem_append, List.mem_cons, List.not_mem_nil, or_false, forall_eq_or_imp, List.pairwise_cons]
        constructor
        · rintro ⟨a, b, c, d⟩
          exact ⟨a, ⟨hm, b⟩, ⟨hpre, fun r hr q hq => c r hr q (.inl hq)⟩, fun r hr => c r hr p (.inr rfl), d⟩
        · rintro ⟨a, ⟨_, b⟩, ⟨_, c⟩, d, e⟩
          exact ⟨a, b, fun r hr q hq => by
            rcases hq with hq | rfl
            · exact c r hr q hq
            · exact d r hr, e⟩
    · rw [if_neg hm]
      simp only [Bool.false_eq_true, false_iff]
      rintro ⟨_, b, _⟩
      exact hm (b p (List.mem_cons_self ..))
theorem refB_iff {K : Bool} {fl : List Pid} : ∀ {xs : List Pid}, refB K fl xs = true ↔ K = true ∧ ∀ p ∈ xs, fl.count p = 1
  | [] => by simp [refB]
  | p :: l => by
    simp only [refB]
    by_cases h : fl.count p = 1
    · rw [if_pos h, refB_iff]; simp [h]
    · rw [if_neg h]; simp [h]

/-- the heads of the leaves -/
def heads : List (List Pid) → List Pid
  | [] => []
  | l :: r => l.head?.toList ++ heads r
theorem chkFrom_iff {S : List (Pid × Int)} {K : List Pid → Nat → Bool} : ∀ {ls : List (List Pid)} {F : List Pid} {n : Nat}, chkFrom S K F n ls = true ↔ (∀ l ∈ ls, l ≠ [] ∧ risFrom S (-1) l = true) ∧ K (F ++ heads ls) (n + lens ls) = true
  | [], F, n => by simp [chkFrom, heads, lens]
  | l :: r, F, n => by
    cases l with
    | nil => simp [chkFrom]
    | cons p l =>
      simp only [chkFrom]
      by_cases h : risFrom S (-1) (p :: l) = true
      · rw [if_pos h, chkFrom_iff]
        have e1 : F ++ [p] ++ heads r = F ++ heads ((p :: l) :: r) := by simp [heads]
        have e2 : n + (p :: l).length + lens r = n + lens ((p :: l) :: r) := by simp [lens]; omega
        rw [e1, e2]
        simp [h]
      · rw [if_neg h]; simp [h]
theorem refC_iff {ms : List Pid} {K : List Pid → Bool} : ∀ {ls : List (List Pid)} {F : List Pid}, refC ms K F ls = true ↔ (∀ l ∈ ls, l ≠ [] ∧ risR ms l = true) ∧ K (F ++ heads ls) = true
  | [], F => by simp [refC, heads]
  | l :: r, F => by
    cases l with
    | nil => simp [refC]
    | cons p l =>
      simp only [refC]
      by_cases h : risR ms (p :: l) = true
      · rw [if_pos h, refC_iff]
        have e1 : F ++ [p] ++ heads r = F ++ heads ((p :: l) :: r) := by simp [heads]
        rw [e1]
        simp [h]
      · rw [if_neg h]; simp [h]

/-- the rank of p, if it is a member -/
def rankO (ms : List Pid) (p : Pid) : Option Int := if atIx ms p < 0 then none else some (atIx ms p)
theorem look_ranks {p : Pid} : ∀ {xs : List Pid} {S : List (Pid × Int)} {k : Nat}, look p (ranksFrom S xs k) = match look p S with | some v => some v | none => if atFrom p xs k < 0 then none else some (atFrom p xs k)
  | [], S, k => by
    simp only [ranksFrom, atFrom]
    cases look p S <;> simp
  | q :: l, S, k => by
    simp only [ranksFrom, atFrom]
    by_cases h : (look q S).isSome = true
    · rw [if_pos h, look_ranks]
      cases hp : look p S with
      | some v => rfl
      | none =>
        have : ¬ q = p := fun e => by subst e; rw [hp] at h; simp at h
        simp only [if_neg this]
    · rw [if_neg h, look_ranks, look_ins]
      by_cases hpq : p = q
      · subst hpq
        have : look p S = none := by simpa using h
        simp only [if_true, this]
        rw [if_neg (by omega)]
      · have : ¬ q = p := fun e => hpq e.symm
        simp only [if_neg hpq, if_neg this]
theorem look_ranksL {ms : List Pid} {p : Pid} : look p (ranksL ms) = rankO ms p := by
  unfold ranksL rankO atIx
  rw [look_ranks]
  rfl
theorem ris_eq (ms : List Pid) : ∀ (xs : List Pid) (pr : Option Pid) (last : Int), (∀ A, 0 ≤ A → prevGe ms pr A = decide (A ≤ last)) → risFrom (ranksL ms) last xs = risRFrom ms pr xs
  | [], _, _, _ => rfl
  | p :: l, pr, last, h => by
    simp only [risFrom, risRFrom, look_ranksL, rankO]
    by_cases hn : atIx ms p < 0
    · rw [if_pos hn, if_pos hn]
    · rw [if_neg hn, if_neg hn, h _ (by omega)]
      simp only [decide_eq_true_eq]
      by_cases hle : atIx ms p ≤ last
      · rw [if_pos hle, if_pos hle]
      · rw [if_neg hle, if_neg hle]
        exact ris_eq ms l (some p) (atIx ms p) (fun A _ => rfl)
theorem ris_same (ms xs : List Pid) : risFrom (ranksL ms) (-1) xs = risR ms xs :=
  ris_eq ms xs none (-1) fun A hA => by
    have : ¬ A ≤ -1 := by omega
    simp [prevGe, this]

/-! ### lists without repeats -/
theorem nodup_of_ids {ms : List Pid} (h : ms.Pairwise (fun p q => p.1 ≠ q.1)) : ms.Nodup := h.imp fun hne e => hne (by rw [e])
theorem nodup_len {l : List Pid} : ∀ {m : List Pid}, l.Nodup → (∀ x ∈ l, x ∈ m) → l.length ≤ m.length := by
  induction l with
  | nil => intro m _ _; simp
  | cons p l ih =>
    intro m hn hs
    rw [List.nodup_cons] at hn
    have hp := hs p (List.mem_cons_self ..)
    have h := ih (m := m.erase p) hn.2 (fun x hx => by
      have hne : x ≠ p := fun e => hn.1 (e ▸ hx)
      exact (List.mem_erase_of_ne hne).2 (hs x (List.mem_cons_of_mem _ hx)))
    rw [List.length_erase_of_mem hp] at h
    have := List.length_pos_of_mem hp
    simp only [List.length_cons]
    omega
theorem count_sum {l : List Pid} : ∀ {m : List Pid}, m.Nodup → (∀ x ∈ l, x ∈ m) → l.length = (m.map fun p => l.count p).sum := by
  induction l with
  | nil =>
    intro m _ _
    have : ∀ m : List Pid, (m.map fun p => ([] : List Pid).count p).sum = 0 := by
      intro m; induction m with
      | nil => rfl
      | cons a m ih => simp only [List.map_cons, List.sum_cons, ih]; simp
    rw [this]; rfl
  | cons q l ih =>
    intro m hm hs
    have h := ih hm (fun x hx => hs x (List.mem_cons_of_mem _ hx))
    have hq := hs q (List.mem_cons_self ..)
    have key : ∀ m : List Pid, m.Nodup → (m.map fun p => (q :: l).count p).sum = (m.map fun p => l.count p).sum + (if q ∈ m then 1 else 0) := by
      intro m
      induction m with
      | nil => intro _; simp
      | cons a m ihm =>
        intro hn
        rw [List.nodup_cons] at hn
        rw [List.map_cons, List.sum_cons, ihm hn.2, List.map_cons, List.sum_cons, List.count_cons]
        by_cases hqa : q = a
        · subst hqa
          simp only [beq_self_eq_true, if_true, if_neg hn.1, List.mem_cons, true_or]
          omega
        · have hb : (q == a) = false := by simpa using hqa
          simp only [hb, List.mem_cons, hqa, false_or, Bool.false_eq_true, if_false]
          omega
    rw [key m hm, if_pos hq, List.length_cons, h]
theorem sum_one : ∀ {m : List Pid} {f : Pid → Nat}, (∀ p ∈ m, f p = 1) → (m.map f).sum = m.length
  | [], _, _ => rfl
  | a :: m, f, h => by
    simp only [List.map_cons, List.sum_cons, List.length_cons, sum_one (fun p hp => h p (List.mem_cons_of_mem _ hp)), h a (List.mem_cons_self ..)]
    omega
/-- each member is met once, just if the lists have no repeat and as many elements as there are members -/
theorem count_iff {ms fl : List Pid} (hm : ms.Nodup) (hs : ∀ x ∈ fl, x ∈ ms) : (∀ p ∈ ms, fl.count p = 1) ↔ fl.length = ms.length ∧ fl.Nodup := by
  constructor
  · intro h
    refine ⟨by rw [count_sum hm hs, sum_one h], ?_⟩
    rw [List.nodup_iff_count]
    intro a
    by_cases ha : a ∈ fl
    · rw [h a (hs a ha)]; exact Nat.le_refl _
    · rw [List.count_eq_zero.2 ha]; omega
  · rintro ⟨hl, hn⟩ p hp
    have h1 := List.nodup_iff_count.1 hn p
    by_cases h0 : fl.count p = 0
    · exfalso
      have hnot : p ∉ fl := List.count_eq_zero.1 h0
      have := nodup_len (l := p :: fl) (m := ms) (List.nodup_cons.2 ⟨hnot, hn⟩) (fun x hx => by
        rcases List.mem_cons.1 hx with rfl | hx
        · exact hp
        · exact hs x hx)
      simp only [List.length_cons] at this
      omega
    · omega

theorem risR_mem {ms : List Pid} : ∀ {xs : List Pid} {pr : Option Pid}, risRFrom ms pr xs = true → ∀ x ∈ xs, x ∈ ms
  | p :: l, pr, h, x, hx => by
    unfold risRFrom at h
    split at h
    · simp at h
    · next hn =>
      split at h
      · simp at h
      · rcases List.mem_cons.1 hx with rfl | hx
        · unfold atIx at hn
          rw [atFrom_neg] at hn
          simpa using hn
        · exact risR_mem h x hx
theorem risR_gt {ms : List Pid} : ∀ {xs : List Pid} {q : Pid}, risRFrom ms (some q) xs = true → ∀ x ∈ xs, atIx ms q < atIx ms x
  | p :: l, q, h, x, hx => by
    unfold risRFrom at h
    split at h
    · simp at h
    · split at h
      · simp at h
      · next hn hp =>
        simp only [prevGe, decide_eq_true_eq, Int.not_le] at hp
        rcases List.mem_cons.1 hx with rfl | hx
        · exact hp
        · have := risR_gt h x hx; omega
theorem risR_nodup {ms : List Pid} : ∀ {xs : List Pid} {pr : Option Pid}, risRFrom ms pr xs = true → xs.Nodup
  | [], _, _ => List.nodup_nil
  | p :: l, pr, h => by
    unfold risRFrom at h
    split at h
    · simp at h
    · split at h
      · simp at h
      · refine List.nodup_cons.2 ⟨fun hp => ?_, risR_nodup h⟩
        have := risR_gt h p hp
        omega
theorem lens_ge : ∀ {ls : List (List Pid)}, (∀ l ∈ ls, l ≠ []) → ls.length ≤ lens ls
  | [], _ => by simp [lens]
  | l :: r, h => by
    have := lens_ge (ls := r) (fun x hx => h x (List.mem_cons_of_mem _ hx))
    have h0 := List.length_pos_iff.2 (h l (List.mem_cons_self ..))
    simp only [lens, List.map_cons, List.sum_cons, List.length_cons] at *
    omega
def WfPids (l : List Pid) : Prop := ∀ p ∈ l, 0 ≤ p.1 ∧ p.1 < 65536 ∧ 0 ≤ p.2 ∧ p.2 < 4294967296
theorem may_eq {p : Pid} (h : 0 ≤ p.2) : mayB p = mayR p := by
  unfold mayB mayR
  by_cases h0 : p.2 = 0
  · have : ¬ (0 < p.2) := by omega
    simp [h0]
  · have : 0 < p.2 := by omega
    simp [h0, this]

/-- view.Check is the document's -/
theorem check_eq (V : View) (hw : WfPids V.ms) : checkB V = refCheckB V := by
  rw [Bool.eq_iff_iff]
  have e1 : checkB V = true ↔ (1 ≤ V.id ∧ V.id ≤ 4611686018427387904) ∧ membersB V.ms = true ∧ (∀ l ∈ V.ls, l ≠ [] ∧ risR V.ms l = true) ∧ lens V.ls = V.ms.length ∧ V.ls.flatten.Nodup ∧ risR V.ms (heads V.ls) = true ∧ V.ds ≠ [] ∧ risR V.ms V.ds = true := by
    unfold checkB
    simp only [Bool.and_eq_true, decide_eq_true_eq, chkFrom_iff, chkEnd, ris_same, List.nil_append, Nat.zero_add]
    have hl := lens_flatten V.ls
    constructor
    · rintro ⟨a, b, c, d, e, f, g, h, i⟩
      exact ⟨⟨a, b⟩, c, d, e, unionL_nodup.1 (by omega), g, h, i⟩
    · rintro ⟨⟨a, b⟩, c, d, e, f, g, h, i⟩
      exact ⟨a, b, c, d, e, by rw [unionL_nodup.2 f, hl], g, h, i⟩
  have e2 : refCheckB V = true ↔ refG V = true ∧ ((refCB V = true ∧ ∀ p ∈ V.ms, V.ls.flatten.count p = 1) ∧ (∀ p ∈ V.ms, mayR p = true) ∧ V.ms.Pairwise (fun p q => p.1 ≠ q.1)) := by
    unfold refCheckB
    rw [Bool.and_eq_true]
    have := refA_iff (K := refB (refCB V) V.ls.flatten V.ms) (xs := V.ms) (pre := [])
    simp only [List.nil_append, List.length_nil, List.not_mem_nil, false_implies, implies_true, true_and] at this
    rw [this, refB_iff]
  have e3 : refCB V = true ↔ (∀ l ∈ V.ls, l ≠ [] ∧ risR V.ms l = true) ∧ risR V.ms (heads V.ls) = true ∧ risR V.ms V.ds = true := by
    unfold refCB
    rw [refC_iff]
    simp only [List.nil_append, Bool.and_eq_true]
  have e4 : membersB V.ms = true ↔ (0 < V.ms.length ∧ V.ms.length ≤ 24) ∧ (∀ p ∈ V.ms, mayR p = true) ∧ V.ms.Pairwise (fun p q => p.1 ≠ q.1) := by
    unfold membersB
    rw [memFrom_iff]
    simp only [keys, List.map_nil, List.not_mem_nil, not_false_eq_true, implies_true, and_true]
    constructor
    · rintro ⟨a, b, c⟩; exact ⟨a, fun p hp => by rw [← may_eq (hw p hp).2.2.1]; exact b p hp, c⟩
    · rintro ⟨a, b, c⟩; exact ⟨a, fun p hp => by rw [may_eq (hw p hp).2.2.1]; exact b p hp, c⟩
  rw [e1, e2, e3, e4]
  unfold refG
  simp only [Bool.and_eq_true, decide_eq_true_eq]
  have hl := lens_flatten V.ls
  constructor
  · rintro ⟨⟨a, b⟩, ⟨⟨c1, c2⟩, c3, c4⟩, d, e, f, g, h, i⟩
    have hmem : ∀ x ∈ V.ls.flatten, x ∈ V.ms := fun x hx => by
      obtain ⟨l, hl, hxl⟩ := List.mem_flatten.1 hx
      exact risR_mem (d l hl).2 x hxl
    have hls := lens_ge (fun l hl => (d l hl).1)
    have hds := List.length_pos_iff.2 h
    have hdl := nodup_len (risR_nodup i) (risR_mem i)
    exact ⟨⟨a, b, by omega, c2, by omega, by omega, hdl⟩, ⟨⟨d, g, i⟩, (count_iff (nodup_of_ids c4) hmem).2 ⟨by omega, f⟩⟩, c3, c4⟩
  · rintro ⟨⟨a, b, c1, c2, c3, c4, c5⟩, ⟨⟨d, g, i⟩, j⟩, k, l⟩
    have hmem : ∀ x ∈ V.ls.flatten, x ∈ V.ms := fun x hx => by
      obtain ⟨l, hl, hxl⟩ := List.mem_flatten.1 hx
      exact risR_mem (d l hl).2 x hxl
    obtain ⟨h1, h2⟩ := (count_iff (nodup_of_ids l) hmem).1 j
    exact ⟨⟨a, b⟩, ⟨⟨by omega, c2⟩, k, l⟩, d, by omega, h2, g, fun e => by rw [e] at c4; simp at c4, i⟩
end Go.Proofs.YtppapeoainafbaaGreatDoor

namespace Go.Proofs.YtppapeoainafbaaGreatDoor
open Go.RowKit

theorem refCheck_is {V : View} {am al ad : Option Addr} {cm cl cd : Nat} {w : World} {bm : Bool} (h : Hid (refCheckB V = bm)) (hV : ViewR w am al ad V) (hsum : lens V.ls ≤ 549755813888) :
   Calls Tryz.prog 18 #[.agg #[.int .u64 V.id, .slice am V.ms.length cm, .slice al V.ls.length cl, .slice ad V.ds.length cd]] w fun e w' => e = .returned (.bool bm) ∧ Below w.heap.size w w' := by
  have := refCheck_any V am al ad cm cl cd w hV hsum
  rw [h.out] at this
  exact this

end Go.Proofs.YtppapeoainafbaaGreatDoor

namespace Go.Proofs.YtppapeoainafbaaGreatDoor
open Go.RowKit

theorem quiet_of {P : Program} {f : FuncId} {args : Array Value} {w0 : World} {U : ExtW w0} {v v' : Value} (h : Calls P f args U.W fun e w' => e = .returned v ∧ Below U.W.heap.size U.W w') (hv : v = v') :
    Calls P f args U.W fun e w' => e = .returned v' ∧ ∃ U' : ExtW w0, w' = U'.W := by
  subst hv
  exact h.mono fun _ _ ⟨h1, h2⟩ => ⟨h1, ⟨_, U.h.trans (h2.mono U.h.size)⟩, rfl⟩

section
variable (V : View) (am al ad : Option Addr) (cm cl cd : Nat) (x y : Int) (w : World)
set_option maxRecDepth 100000 in
set_option maxHeartbeats 800000 in
theorem leads_any (hV : ViewR w am al ad V) :
   Calls Tryz.prog 58 #[.agg #[.int .u64 V.id, .slice am V.ms.length cm, .slice al V.ls.length cl, .slice ad V.ds.length cd], .agg #[.int .u16 x, .int .u32 y]] w fun e w' => e = .returned (.bool (decide ((x, y) ∈ V.ds))) ∧ Below w.heap.size w w' := by
  have hB2 : Below w.heap.size w ((w.alloc (.cells #[.int .u64 V.id, .slice am V.ms.length cm, .slice al V.ls.length cl, .slice ad V.ds.length cd] 33)).alloc (.cells #[.int .u16 x, .int .u32 y] 25)) := ((Below.refl _ _).alloc (Nat.le_refl _) _).alloc (by simp) _
  have hV2 := hV.ext hB2
  go_enter Tryz.func58, Tryz.ntmps58
  go_wp2_with (go_at_call 92; refine (contains_any _ _ _ _ _ _ hV.ld hV2.ds).mono ?_; rintro e w3 ⟨rfl, hb3⟩)
  go_ret
  exact ⟨rfl, hB2.trans (hb3.mono (by simp; omega))⟩
end
/-! ### two quorums meet -/
end Go.Proofs.YtppapeoainafbaaGreatDoor

namespace Go.Proofs.YtppapeoainafbaaGreatDoor
open Go.RowKit

/-! ### slices.Equal, EqualFunc, the references' Same: lists are the same -/
def eqFrom : List Pid → List Pid → Bool
  | [], _ => true
  | _ :: _, [] => true
  | x :: l, y :: r => if x = y then eqFrom l r else false
theorem eqFrom_drop {xs ys : List Pid} {k : Nat} (h : k < xs.length) (h' : k < ys.length) {p q : Pid} (hp : p = xs[k]) (hq : q = ys[k]) : eqFrom (xs.drop k) (ys.drop k) = if p = q then eqFrom (xs.drop (k + 1)) (ys.drop (k + 1)) else false := by
  rw [List.drop_eq_getElem_cons h, List.drop_eq_getElem_cons h', ← hp, ← hq]; rfl
theorem eqFrom_iff : ∀ {xs ys : List Pid}, xs.length = ys.length → (eqFrom xs ys = true ↔ xs = ys)
  | [], [], _ => by simp [eqFrom]
  | x :: l, y :: r, h => by
    have ih := eqFrom_iff (xs := l) (ys := r) (by simpa using h)
    simp only [eqFrom]
    by_cases hxy : x = y
    · rw [if_pos hxy, ih]; simp [hxy]
    · rw [if_neg hxy]; simp [hxy]
  | [], y :: r, h => by simp at h
  | x :: l, [], h => by simp at h
theorem eqFrom_eq {xs ys : List Pid} (h : xs.length = ys.length) : decide (xs = ys) = eqFrom xs ys := by
  rw [Bool.eq_iff_iff, eqFrom_iff h]; simp

set_option maxRecDepth 100000 in
set_option maxHeartbeats 800000 in
theorem sameR_any (a b : Option Addr) (ca cb : Nat) (xs ys : List Pid) (w : World) (hn : xs.length ≤ 70368744177664) (_hm : ys.length ≤ 70368744177664) (hx : PidRow w a xs) (hy : PidRow w b ys) :
   Calls Tryz.prog 54 #[.slice a xs.length ca, .slice b ys.length cb] w fun e w' => e = .returned (.bool (decide (xs = ys))) ∧ Below w.heap.size w w' := by
  by_cases hl : xs.length = ys.length
  · have hsp := eqFrom_eq hl
    have hl' : ((xs.length : Int) != (ys.length : Int)) = false := by rw [hl]; simp
    have HL := hid hl
    have HSP := hid hsp
    clear hl hsp
    go_enter Tryz.func54, Tryz.ntmps54
    go_wp2
    go_loopw [4, 5] (fun rs kv wr => rs = .bool false ∧ ∃ k : Nat, k ≤ xs.length ∧ kv = .int .i64 k ∧ Hid (decide (xs = ys) = eqFrom (xs.drop k) (ys.drop k)) ∧ Below w.heap.size w wr) (fun _ kv _ => xs.length - (intOf kv).toNat)
    case atStart => exact ⟨rfl, 0, Nat.zero_le _, rfl, HSP, Below.refl _ _⟩
    case round =>
      obtain ⟨rfl, k, hk, rfl, ha, hb⟩ := hrel
      by_cases hkt : k < xs.length
      · have hkt' : k < ys.length := by have := HL.out; omega
        obtain ⟨b1, o1, x1, y1, rfl, hx1, q0, q1⟩ := hx.at hb rfl hkt
        obtain ⟨b2, o2, x2, y2, rfl, hx2, q2, q3⟩ := hy.at hb rfl hkt'
        have hd := eqFrom_drop hkt hkt' hx1 hx2
        have HD := hid hd
        clear hd hx1 hx2
        have he := fun w => neq_pid x1 y1 x2 y2 w
        by_cases hxy : (x1, y1) = (x2, y2)
        · have hxy1 : decide ((x1, y1) = (x2, y2)) = true := by simpa using hxy
          rw [hxy1] at he
          have HXY := hid hxy
          clear hxy hxy1
          go_wp2
          go_quiet (fail)
          go_wp2
          go_roundw
          case rel => exact ⟨rfl, k + 1, by omega, by go_num, (ha.out.trans (by rw [HD.out, if_pos HXY.out]) : _), below_drewN hb _⟩
          case measure => simp [intOf]; omega
        · have hxy1 : decide ((x1, y1) = (x2, y2)) = false := by simpa using hxy
          rw [hxy1] at he
          have HXY : Hid (¬ (x1, y1) = (x2, y2)) := hxy
          clear hxy hxy1
          go_wp2
          go_quiet (fail)
          go_wp2
          go_ret
          exact ⟨ret_bool (by rw [ha.out, HD.out, if_neg HXY.out]), below_drewN hb _⟩
      · go_wp2
        go_ret
        exact ⟨ret_bool (by rw [ha.out, List.drop_eq_nil_of_le (by omega)]; rfl), hb⟩
  · have hne : decide (xs = ys) = false := by simp; intro e; exact hl (by rw [e])
    have hl' : ((xs.length : Int) != (ys.length : Int)) = true := by rw [bne_iff_ne]; omega
    have HN := hid hne
    clear hne hl
    go_enter Tryz.func54, Tryz.ntmps54
    go_wp2
    go_ret
    exact ⟨ret_bool HN.out.symm, Below.refl _ _⟩

section
variable {a b : Option Addr} {ca cb : Nat} {xs ys : List Pid} {w : World} {bm : Bool} (h : Hid (decide (xs = ys) = bm)) (hn : xs.length ≤ 70368744177664) (hm : ys.length ≤ 70368744177664) (hx : PidRow w a xs) (hy : PidRow w b ys)
include h hn hm hx hy
theorem sameR_is : Calls Tryz.prog 54 #[.slice a xs.length ca, .slice b ys.length cb] w fun e w' => e = .returned (.bool bm) ∧ Below w.heap.size w w' := by
  have := sameR_any a b ca cb xs ys w hn hm hx hy
  rw [h.out] at this
  exact this
theorem sameR_ext {U : ExtW w} : Calls Tryz.prog 54 #[.slice a xs.length ca, .slice b ys.length cb] U.W fun e w' => e = .returned (.bool bm) ∧ ∃ U' : ExtW w, w' = U'.W :=
  quiet_of (sameR_any a b ca cb xs ys U.W hn hm (hx.ext U.h) (hy.ext U.h)) (by rw [h.out])
end

/-! lists of lists -/
def eqLFrom : List (List Pid) → List (List Pid) → Bool
  | [], _ => true
  | _ :: _, [] => true
  | x :: l, y :: r => if x = y then eqLFrom l r else false
theorem eqLFrom_drop {xs ys : List (List Pid)} {k : Nat} (h : k < xs.length) (h' : k < ys.length) {p q : List Pid} (hp : p = xs[k]) (hq : q = ys[k]) : eqLFrom (xs.drop k) (ys.drop k) = if p = q then eqLFrom (xs.drop (k + 1)) (ys.drop (k + 1)) else false := by
  rw [List.drop_eq_getElem_cons h, List.drop_eq_getElem_cons h', ← hp, ← hq]; rfl
theorem eqLFrom_iff : ∀ {xs ys : List (List Pid)}, xs.length = ys.length → (eqLFrom xs ys = true ↔ xs = ys)
  | [], [], _ => by simp [eqLFrom]
  | x :: l, y :: r, h => by
    have ih := eqLFrom_iff (xs := l) (ys := r) (by simpa using h)
    simp only [eqLFrom]
    by_cases hxy : x = y
    · rw [if_pos hxy, ih]; simp [hxy]
    · rw [if_neg hxy]; simp [hxy]
  | [], y :: r, h => by simp at h
  | x :: l, [], h => by simp at h
theorem eqLFrom_eq {xs ys : List (List Pid)} (h : xs.length = ys.length) : decide (xs = ys) = eqLFrom xs ys := by
  rw [Bool.eq_iff_iff, eqLFrom_iff h]; simp

end Go.Proofs.YtppapeoainafbaaGreatDoor

namespace Go.Proofs.YtppapeoainafbaaGreatDoor
open Go.RowKit

/-! slices.Equal, slices.EqualFunc -/
set_option maxRecDepth 100000 in
set_option maxHeartbeats 800000 in
theorem equal_any (a b : Option Addr) (ca cb : Nat) (xs ys : List Pid) (w : World) (hn : xs.length ≤ 70368744177664) (_hm : ys.length ≤ 70368744177664) (hx : PidRow w a xs) (hy : PidRow w b ys) :
   Calls Tryz.prog 136 #[.slice a xs.length ca, .slice b ys.length cb] w fun e w' => e = .returned (.bool (decide (xs = ys))) ∧ Below w.heap.size w w' := by
  by_cases hl : xs.length = ys.length
  · have hsp := eqFrom_eq hl
    have hl' : ((xs.length : Int) != (ys.length : Int)) = false := by rw [hl]; simp
    have HL := hid hl
    have HSP := hid hsp
    clear hl hsp
    go_enter Tryz.func136, Tryz.ntmps136
    go_wp2
    go_loopw [4, 13] (fun rs kv wr => rs = .bool false ∧ ∃ k : Nat, k ≤ xs.length ∧ kv = .int .i64 k ∧ Hid (decide (xs = ys) = eqFrom (xs.drop k) (ys.drop k)) ∧ Below w.heap.size w wr) (fun _ kv _ => xs.length - (intOf kv).toNat)
    case atStart => exact ⟨rfl, 0, Nat.zero_le _, rfl, HSP, Below.refl _ _⟩
    case round =>
      obtain ⟨rfl, k, hk, rfl, ha, hb⟩ := hrel
      by_cases hkt : k < xs.length
      · have hkt' : k < ys.length := by have := HL.out; omega
        obtain ⟨b1, o1, x1, y1, rfl, hx1, q0, q1⟩ := hx.at hb rfl hkt
        obtain ⟨b2, o2, x2, y2, rfl, hx2, q2, q3⟩ := hy.at hb rfl hkt'
        have hd := eqFrom_drop hkt hkt' hx1 hx2
        have HD := hid hd
        clear hd hx1 hx2
        have he := fun w => neq_pid x1 y1 x2 y2 w
        by_cases hxy : (x1, y1) = (x2, y2)
        · have hxy1 : decide ((x1, y1) = (x2, y2)) = true := by simpa using hxy
          rw [hxy1] at he
          have HXY := hid hxy
          clear hxy hxy1
          go_wp2
          go_quiet (fail)
          go_wp2
          go_roundw
          case rel => exact ⟨rfl, k + 1, by omega, by go_num, (ha.out.trans (by rw [HD.out, if_pos HXY.out]) : _), below_drewN hb _⟩
          case measure => simp [intOf]; omega
        · have hxy1 : decide ((x1, y1) = (x2, y2)) = false := by simpa using hxy
          rw [hxy1] at he
          have HXY : Hid (¬ (x1, y1) = (x2, y2)) := hxy
          clear hxy hxy1
          go_wp2
          go_quiet (fail)
          go_wp2
          go_ret
          exact ⟨ret_bool (by rw [ha.out, HD.out, if_neg HXY.out]), below_drewN hb _⟩
      · go_wp2
        go_ret
        exact ⟨ret_bool (by rw [ha.out, List.drop_eq_nil_of_le (by omega)]; rfl), hb⟩
  · have hne : decide (xs = ys) = false := by simp; intro e; exact hl (by rw [e])
    have hl' : ((xs.length : Int) != (ys.length : Int)) = true := by rw [bne_iff_ne]; omega
    have HN := hid hne
    clear hne hl
    go_enter Tryz.func136, Tryz.ntmps136
    go_wp2
    go_ret
    exact ⟨ret_bool HN.out.symm, Below.refl _ _⟩

section
variable {a b : Option Addr} {ca cb : Nat} {xs ys : List Pid} {w : World} {bm : Bool} (h : Hid (decide (xs = ys) = bm)) (hn : xs.length ≤ 70368744177664) (hm : ys.length ≤ 70368744177664) (hx : PidRow w a xs) (hy : PidRow w b ys)
include h hn hm hx hy
theorem equal_is : Calls Tryz.prog 136 #[.slice a xs.length ca, .slice b ys.length cb] w fun e w' => e = .returned (.bool bm) ∧ Below w.heap.size w w' := by
  have := equal_any a b ca cb xs ys w hn hm hx hy
  rw [h.out] at this
  exact this
end
set_option maxRecDepth 100000 in
set_option maxHeartbeats 1600000 in
theorem equalFunc_any (a b : Option Addr) (ca cb : Nat) (xs ys : List (List Pid)) (w : World) (hn : xs.length ≤ 70368744177664) (_hm : ys.length ≤ 70368744177664) (hx : LeafRow w a xs) (hy : LeafRow w b ys)
    (hln : ∀ l ∈ xs, l.length ≤ 70368744177664) (hlm : ∀ l ∈ ys, l.length ≤ 70368744177664) :
   Calls Tryz.prog 137 #[.slice a xs.length ca, .slice b ys.length cb, .func (.func 136) #[] #[]] w fun e w' => e = .returned (.bool (decide (xs = ys))) ∧ Below w.heap.size w w' := by
  by_cases hl : xs.length = ys.length
  · have hsp := eqLFrom_eq hl
    have hl' : ((xs.length : Int) != (ys.length : Int)) = false := by rw [hl]; simp
    have HL := hid hl
    have HSP := hid hsp
    clear hl hsp
    go_enter Tryz.func137, Tryz.ntmps137
    go_wp2
    go_loopw [6, 17] (fun rs kv wr => rs = .bool false ∧ ∃ k : Nat, k ≤ xs.length ∧ kv = .int .i64 k ∧ Hid (decide (xs = ys) = eqLFrom (xs.drop k) (ys.drop k)) ∧ Below w.heap.size w wr) (fun _ kv _ => xs.length - (intOf kv).toNat)
    case atStart => exact ⟨rfl, 0, Nat.zero_le _, rfl, HSP, Below.refl _ _⟩
    case round =>
      obtain ⟨rfl, k, hk, rfl, ha, hb⟩ := hrel
      by_cases hkt : k < xs.length
      · have hkt' : k < ys.length := by have := HL.out; omega
        obtain ⟨b1, o1, a1, c1, l1, rfl, hx1, q1, r1⟩ := hx.at hb rfl hkt
        obtain ⟨b2, o2, a2, c2, l2, rfl, hx2, q2, r2⟩ := hy.at hb rfl hkt'
        have hl1 : l1.length ≤ 70368744177664 := hln l1 (by rw [hx1]; exact List.getElem_mem _)
        have hl2 : l2.length ≤ 70368744177664 := hlm l2 (by rw [hx2]; exact List.getElem_mem _)
        have hd := eqLFrom_drop hkt hkt' hx1 hx2
        have HD := hid hd
        clear hd hx1 hx2
        cases hxy : decide (l1 = l2)
        · have HXY := hid hxy
          clear hxy
          go_wp2_with (go_at_call 136; refine (equal_is HXY hl1 hl2 r1 r2).mono ?_; rintro e w3 ⟨rfl, hb3⟩)
          go_ret
          exact ⟨ret_bool (by rw [ha.out, HD.out, if_neg (of_decide_eq_false HXY.out)]), hb.trans (hb3.mono hb.size)⟩
        · have HXY := hid hxy
          clear hxy
          go_wp2_with (go_at_call 136; refine (equal_is HXY hl1 hl2 r1 r2).mono ?_; rintro e w3 ⟨rfl, hb3⟩)
          go_roundw
          case rel => exact ⟨rfl, k + 1, by omega, by go_num, (ha.out.trans (by rw [HD.out, if_pos (of_decide_eq_true HXY.out)]) : _), hb.trans (hb3.mono hb.size)⟩
          case measure => simp [intOf]; omega
      · go_wp2
        go_ret
        exact ⟨ret_bool (by rw [ha.out, List.drop_eq_nil_of_le (by omega)]; rfl), hb⟩
  · have hne : decide (xs = ys) = false := by simp; intro e; exact hl (by rw [e])
    have hl' : ((xs.length : Int) != (ys.length : Int)) = true := by rw [bne_iff_ne]; omega
    have HN := hid hne
    clear hne hl
    go_enter Tryz.func137, Tryz.ntmps137
    go_wp2
    go_ret
    exact ⟨ret_bool HN.out.symm, Below.refl _ _⟩
end Go.Proofs.YtppapeoainafbaaGreatDoor

namespace Go.Proofs.YtppapeoainafbaaGreatDoor
open Go.RowKit

def sameB (A B : View) : Bool := decide (A.id = B.id) && (decide (A.ms = B.ms) && (decide (A.ls = B.ls) && decide (A.ds = B.ds)))
theorem equalFunc_is {a b : Option Addr} {ca cb : Nat} {xs ys : List (List Pid)} {w : World} {bm : Bool} (h : Hid (decide (xs = ys) = bm)) (hn : xs.length ≤ 70368744177664) (hm : ys.length ≤ 70368744177664) (hx : LeafRow w a xs) (hy : LeafRow w b ys)
    (hln : ∀ l ∈ xs, l.length ≤ 70368744177664) (hlm : ∀ l ∈ ys, l.length ≤ 70368744177664) :
   Calls Tryz.prog 137 #[.slice a xs.length ca, .slice b ys.length cb, .func (.func 136) #[] #[]] w fun e w' => e = .returned (.bool bm) ∧ Below w.heap.size w w' := by
  have := equalFunc_any a b ca cb xs ys w hn hm hx hy hln hlm
  rw [h.out] at this
  exact this

section
variable (A B : View) (am al ad bm bl bd : Option Addr) (cm cl cd em el ed : Nat) (w : World)
set_option maxRecDepth 100000 in
set_option maxHeartbeats 3200000 in
theorem viewSame_any (hA : ViewR w am al ad A) (hB : ViewR w bm bl bd B) :
   Calls Tryz.prog 110 #[.agg #[.int .u64 A.id, .slice am A.ms.length cm, .slice al A.ls.length cl, .slice ad A.ds.length cd], .agg #[.int .u64 B.id, .slice bm B.ms.length em, .slice bl B.ls.length el, .slice bd B.ds.length ed]] w fun e w' => e = .returned (.bool (sameB A B)) ∧ Below w.heap.size w w' := by
  have hB2 : Below w.heap.size w ((w.alloc (.cells #[.int .u64 A.id, .slice am A.ms.length cm, .slice al A.ls.length cl, .slice ad A.ds.length cd] 33)).alloc (.cells #[.int .u64 B.id, .slice bm B.ms.length em, .slice bl B.ls.length el, .slice bd B.ds.length ed] 33)) := ((Below.refl _ _).alloc (Nat.le_refl _) _).alloc (by simp) _
  have hA2 := hA.ext hB2
  have hBb := hB.ext hB2
  have xA : ViewBox ((w.alloc (.cells #[.int .u64 A.id, .slice am A.ms.length cm, .slice al A.ls.length cl, .slice ad A.ds.length cd] 33)).alloc (.cells #[.int .u64 B.id, .slice bm B.ms.length em, .slice bl B.ls.length el, .slice bd B.ds.length ed] 33)) w.heap.size A am al ad cm cl cd := (ViewBox.made (V := A) w).ext ((Below.refl _ _).alloc (Nat.le_refl _) _) (by simp)
  have xB : ViewBox ((w.alloc (.cells #[.int .u64 A.id, .slice am A.ms.length cm, .slice al A.ls.length cl, .slice ad A.ds.length cd] 33)).alloc (.cells #[.int .u64 B.id, .slice bm B.ms.length em, .slice bl B.ls.length el, .slice bd B.ds.length ed] 33)) (w.heap.size + 1) B bm bl bd em el ed := by
    have := ViewBox.made (V := B) (am := bm) (al := bl) (ad := bd) (cm := em) (cl := el) (cd := ed) (w.alloc (.cells #[.int .u64 A.id, .slice am A.ms.length cm, .slice al A.ls.length cl, .slice ad A.ds.length cd] 33))
    simpa using this
  by_cases h1 : A.id = B.id
  · have h1' : (A.id == B.id) = true := by simpa using h1
    have H1 := hid h1
    clear h1
    cases h2 : decide (A.ms = B.ms)
    · have H2 := hid h2
      clear h2
      go_enter Tryz.func110, Tryz.ntmps110
      go_wp2_with (go_at_call 136; refine (equal_is H2 hA.lm hB.lm hA2.ms hBb.ms).mono ?_; rintro e w3 ⟨rfl, hb3⟩)
      go_ret
      exact ⟨ret_bool (by unfold sameB; rw [H2.out]; simp), hB2.trans (hb3.mono hB2.size)⟩
    · have H2 := hid h2
      clear h2
      cases h3 : decide (A.ls = B.ls)
      · have H3 := hid h3
        clear h3
        go_enter Tryz.func110, Tryz.ntmps110
        go_wp2_with (first
          | (go_at_call 136; refine (equal_is H2 hA.lm hB.lm hA2.ms hBb.ms).mono ?_; rintro e w3 ⟨rfl, hb3⟩; obtain ⟨a0, a1, a2, a3⟩ := xA.ext hb3 xA.lt; obtain ⟨b0, b1, b2, b3⟩ := xB.ext hb3 xB.lt)
          | (go_at_call 137; refine (equalFunc_is H3 hA.ll hB.ll (hA2.ext hb3).ls (hBb.ext hb3).ls hA.le hB.le).mono ?_; rintro e w4 ⟨rfl, hb4⟩))
        go_ret
        exact ⟨ret_bool (by unfold sameB; rw [H3.out]; simp), (hB2.trans (hb3.mono hB2.size)).trans (hb4.mono (by have := hB2.size; have := hb3.size; omega))⟩
      · have H3 := hid h3
        clear h3
        cases h4 : decide (A.ds = B.ds)
        all_goals
          have H4 := hid h4
          clear h4
          go_enter Tryz.func110, Tryz.ntmps110
          go_wp2_with (first
            | (go_at_call_of 136 am; (with_reducible refine (equal_is H2 hA.lm hB.lm hA2.ms hBb.ms).mono ?_); rintro e w3 ⟨rfl, hb3⟩; obtain ⟨a0, a1, a2, a3⟩ := xA.ext hb3 xA.lt; obtain ⟨b0, b1, b2, b3⟩ := xB.ext hb3 xB.lt)
            | (go_at_call 137; refine (equalFunc_is H3 hA.ll hB.ll (hA2.ext hb3).ls (hBb.ext hb3).ls hA.le hB.le).mono ?_; rintro e w4 ⟨rfl, hb4⟩; obtain ⟨d0, d1, d2, d3⟩ := (xA.ext hb3 xA.lt).ext hb4 (by have := xA.lt; have := hb3.size; omega); obtain ⟨e0, e1, e2, e3⟩ := (xB.ext hb3 xB.lt).ext hb4 (by have := xB.lt; have := hb3.size; omega))
            | (go_at_call 136; (with_reducible refine (equal_is H4 hA.ld hB.ld ((hA2.ext hb3).ext hb4).ds ((hBb.ext hb3).ext hb4).ds).mono ?_); rintro e w5 ⟨rfl, hb5⟩))
          go_ret
          exact ⟨ret_bool (by unfold sameB; rw [H2.out, H3.out, H4.out, decide_eq_true H1.out]; rfl), ((hB2.trans (hb3.mono hB2.size)).trans (hb4.mono (by have := hB2.size; have := hb3.size; omega))).trans (hb5.mono (by have := hB2.size; have := hb3.size; have := hb4.size; omega))⟩
  · have h1' : (A.id == B.id) = false := by simpa using h1
    have H1 : Hid (¬ A.id = B.id) := h1
    clear h1
    go_enter Tryz.func110, Tryz.ntmps110
    go_wp2
    go_ret
    exact ⟨ret_bool (by unfold sameB; rw [decide_eq_false H1.out]; rfl), hB2⟩

set_option maxRecDepth 100000 in
set_option maxHeartbeats 3200000 in
theorem refSame_any (hA : ViewR w am al ad A) (hB : ViewR w bm bl bd B) :
   Calls Tryz.prog 16 #[.agg #[.int .u64 A.id, .slice am A.ms.length cm, .slice al A.ls.length cl, .slice ad A.ds.length cd], .agg #[.int .u64 B.id, .slice bm B.ms.length em, .slice bl B.ls.length el, .slice bd B.ds.length ed]] w fun e w' => e = .returned (.bool (sameB A B)) ∧ Below w.heap.size w w' := by
  have hB2 : Below w.heap.size w ((w.alloc (.cells #[.int .u64 A.id, .slice am A.ms.length cm, .slice al A.ls.length cl, .slice ad A.ds.length cd] 33)).alloc (.cells #[.int .u64 B.id, .slice bm B.ms.length em, .slice bl B.ls.length el, .slice bd B.ds.length ed] 33)) := ((Below.refl _ _).alloc (Nat.le_refl _) _).alloc (by simp) _
  have hA2 := hA.ext hB2
  have hBb := hB.ext hB2
  have xA : ViewBox ((w.alloc (.cells #[.int .u64 A.id, .slice am A.ms.length cm, .slice al A.ls.length cl, .slice ad A.ds.length cd] 33)).alloc (.cells #[.int .u64 B.id, .slice bm B.ms.length em, .slice bl B.ls.length el, .slice bd B.ds.length ed] 33)) w.heap.size A am al ad cm cl cd := (ViewBox.made (V := A) w).ext ((Below.refl _ _).alloc (Nat.le_refl _) _) (by simp)
  have xB : ViewBox ((w.alloc (.cells #[.int .u64 A.id, .slice am A.ms.length cm, .slice al A.ls.length cl, .slice ad A.ds.length cd] 33)).alloc (.cells #[.int .u64 B.id, .slice bm B.ms.length em, .slice bl B.ls.length el, .slice bd B.ds.length ed] 33)) (w.heap.size + 1) B bm bl bd em el ed := by
    have := ViewBox.made (V := B) (am := bm) (al := bl) (ad := bd) (cm := em) (cl := el) (cd := ed) (w.alloc (.cells #[.int .u64 A.id, .slice am A.ms.length cm, .slice al A.ls.length cl, .slice ad A.ds.length cd] 33))
    simpa using this
  have hAll := hA.ll
  have hBll := hB.ll
  by_cases h1 : A.id = B.id
  · have h1' : (A.id != B.id) = false := by simpa using h1
    have H1 := hid h1
    clear h1
    cases h2 : decide (A.ms = B.ms)
    · have H2 := hid h2
      clear h2
      go_enter Tryz.func16, Tryz.ntmps16
      go_wp2_with (go_at_call 54; refine (sameR_is H2 hA.lm hB.lm hA2.ms hBb.ms).mono ?_; rintro e w3 ⟨rfl, hb3⟩)
      go_ret
      exact ⟨ret_bool (by unfold sameB; rw [H2.out]; simp), hB2.trans (hb3.mono hB2.size)⟩
    · have H2 := hid h2
      clear h2
      cases h4 : decide (A.ds = B.ds)
      · have H4 := hid h4
        clear h4
        go_enter Tryz.func16, Tryz.ntmps16
        go_wp2_with (first
          | (go_at_call_of 54 am; (with_reducible refine (sameR_is H2 hA.lm hB.lm hA2.ms hBb.ms).mono ?_); rintro e w3 ⟨rfl, hb3⟩; obtain ⟨a0, a1, a2, a3⟩ := xA.ext hb3 xA.lt; obtain ⟨b0, b1, b2, b3⟩ := xB.ext hb3 xB.lt)
          | (go_at_call 54; (with_reducible refine (sameR_is H4 hA.ld hB.ld (hA2.ext hb3).ds (hBb.ext hb3).ds).mono ?_); rintro e w4 ⟨rfl, hb4⟩))
        go_ret
        exact ⟨ret_bool (by unfold sameB; rw [H4.out]; simp), (hB2.trans (hb3.mono hB2.size)).trans (hb4.mono (by have := hB2.size; have := hb3.size; omega))⟩
      · have H4 := hid h4
        clear h4
        by_cases hl : A.ls.length = B.ls.length
        · have hl' : ((A.ls.length : Int) != (B.ls.length : Int)) = false := by rw [hl]; simp
          have hsp := eqLFrom_eq hl
          have HL := hid hl
          have HSP : Hid (sameB A B = eqLFrom A.ls B.ls) := by unfold sameB Hid; rw [H2.out, H4.out, decide_eq_true H1.out, ← hsp]; simp
          clear hl hsp
          go_enter Tryz.func16, Tryz.ntmps16
          go_wp2_with (first
            | (go_at_call_of 54 am; (with_reducible refine (sameR_is H2 hA.lm hB.lm hA2.ms hBb.ms).mono ?_); rintro e w3 ⟨rfl, hb3⟩; obtain ⟨a0, a1, a2, a3⟩ := xA.ext hb3 xA.lt; obtain ⟨b0, b1, b2, b3⟩ := xB.ext hb3 xB.lt)
            | (go_at_call 54; (with_reducible refine (sameR_is H4 hA.ld hB.ld (hA2.ext hb3).ds (hBb.ext hb3).ds).mono ?_); rintro e w4 ⟨rfl, hb4⟩; obtain ⟨d0, d1, d2, d3⟩ := (xA.ext hb3 xA.lt).ext hb4 (by have := xA.lt; have := hb3.size; omega); obtain ⟨e0, e1, e2, e3⟩ := (xB.ext hb3 xB.lt).ext hb4 (by have := xB.lt; have := hb3.size; omega)))
          have s3 := hb3.size
          have s4 := hb4.size
          have s2 := hB2.size
          have xA4 := (xA.ext hb3 xA.lt).ext hb4 (by have := xA.lt; omega)
          have xB4 := (xB.ext hb3 xB.lt).ext hb4 (by have := xB.lt; omega)
          have hA4 := (hA2.ext hb3).ext hb4
          have hB4 := (hBb.ext hb3).ext hb4
          have hW4 : Below w.heap.size w w4 := (hB2.trans (hb3.mono s2)).trans (hb4.mono (by omega))
          clear hb3 hb4 hA2 hBb xA xB a0 a1 a2 a3 b0 b1 b2 b3 d0 d1 d2 d3 e0 e1 e2 e3 hB2
          go_loopw [4, 5] (fun rs kv wr => rs = .bool false ∧ ∃ k : Nat, k ≤ A.ls.length ∧ kv = .int .i64 k ∧ Hid (sameB A B = eqLFrom (A.ls.drop k) (B.ls.drop k)) ∧ Below w4.heap.size w4 wr) (fun _ kv _ => A.ls.length - (intOf kv).toNat)
          case atStart => exact ⟨rfl, 0, Nat.zero_le _, rfl, HSP, Below.refl _ _⟩
          case round =>
            obtain ⟨rfl, k, hk, rfl, ha, hb⟩ := hrel
            obtain ⟨a0, a1, a2, a3⟩ := xA4.ext hb xA4.lt
            obtain ⟨b0, b1, b2, b3⟩ := xB4.ext hb xB4.lt
            by_cases hkt : k < A.ls.length
            · have hkt' : k < B.ls.length := by have := HL.out; omega
              obtain ⟨p1, o1, a1', c1, l1, rfl, hx1, q1, r1⟩ := hA4.ls.at hb rfl hkt
              obtain ⟨p2, o2, a2', c2, l2, rfl, hx2, q2, r2⟩ := hB4.ls.at hb rfl hkt'
              have hl1 : l1.length ≤ 70368744177664 := hA.le l1 (by rw [hx1]; exact List.getElem_mem _)
              have hl2 : l2.length ≤ 70368744177664 := hB.le l2 (by rw [hx2]; exact List.getElem_mem _)
              have hd := eqLFrom_drop hkt hkt' hx1 hx2
              have HD := hid hd
              have u1 := cell_extw a2
              have u2 := cell_extw b2
              have u3 := cell_extw q1
              have u4 := cell_extw q2
              clear hd hx1 hx2
              cases hxy : decide (l1 = l2)
              · have HXY := hid hxy
                clear hxy
                go_wp2
                refine wp_region_ext (w := wr) (Below.refl _ _) (by kernel_rfl) (by kernel_rfl) ?_
                repeat (go_big_quiet_step (exact sameR_ext HXY hl1 hl2 r1 r2))
                refine wpQuiet_nil ?_
                rintro w9 ⟨⟨_, hb9⟩, rfl⟩
                go_wp2
                go_ret
                exact ⟨ret_bool (by rw [ha.out, HD.out, if_neg (of_decide_eq_false HXY.out)]), hW4.trans ((hb.trans (hb9.mono hb.size)).mono hW4.size)⟩
              · have HXY := hid hxy
                clear hxy
                go_wp2
                refine wp_region_ext (w := wr) (Below.refl _ _) (by kernel_rfl) (by kernel_rfl) ?_
                repeat (go_big_quiet_step (exact sameR_ext HXY hl1 hl2 r1 r2))
                refine wpQuiet_nil ?_
                rintro w9 ⟨⟨_, hb9⟩, rfl⟩
                go_wp2
                go_roundw
                case rel => exact ⟨rfl, k + 1, by omega, by go_num, (ha.out.trans (by rw [HD.out, if_pos (of_decide_eq_true HXY.out)]) : _), hb.trans (hb9.mono hb.size)⟩
                case measure => simp [intOf]; omega
            · go_wp2
              go_ret
              exact ⟨ret_bool (by rw [ha.out, List.drop_eq_nil_of_le (by omega)]; rfl), hW4.trans (hb.mono hW4.size)⟩
        · have hl' : ((A.ls.length : Int) != (B.ls.length : Int)) = true := by rw [bne_iff_ne]; omega
          have HNE : Hid (sameB A B = false) := by
            have : decide (A.ls = B.ls) = false := by simp; intro e; exact hl (by rw [e])
            unfold sameB Hid; rw [this]; simp
          clear hl
          go_enter Tryz.func16, Tryz.ntmps16
          go_wp2_with (first
            | (go_at_call_of 54 am; (with_reducible refine (sameR_is H2 hA.lm hB.lm hA2.ms hBb.ms).mono ?_); rintro e w3 ⟨rfl, hb3⟩; obtain ⟨a0, a1, a2, a3⟩ := xA.ext hb3 xA.lt; obtain ⟨b0, b1, b2, b3⟩ := xB.ext hb3 xB.lt)
            | (go_at_call 54; (with_reducible refine (sameR_is H4 hA.ld hB.ld (hA2.ext hb3).ds (hBb.ext hb3).ds).mono ?_); rintro e w4 ⟨rfl, hb4⟩; obtain ⟨d0, d1, d2, d3⟩ := (xA.ext hb3 xA.lt).ext hb4 (by have := xA.lt; have := hb3.size; omega); obtain ⟨e0, e1, e2, e3⟩ := (xB.ext hb3 xB.lt).ext hb4 (by have := xB.lt; have := hb3.size; omega)))
          go_ret
          exact ⟨ret_bool HNE.out.symm, (hB2.trans (hb3.mono hB2.size)).trans (hb4.mono (by have := hB2.size; have := hb3.size; omega))⟩
  · have h1' : (A.id != B.id) = true := by simpa using h1
    have H1 : Hid (¬ A.id = B.id) := h1
    clear h1
    go_enter Tryz.func16, Tryz.ntmps16
    go_wp2
    go_ret
    exact ⟨ret_bool (by unfold sameB; rw [decide_eq_false H1.out]; rfl), hB2⟩
end
theorem sameB_refl (A : View) : sameB A A = true := by simp [sameB]
end Go.Proofs.YtppapeoainafbaaGreatDoor

namespace Go.Proofs.YtppapeoainafbaaGreatDoor
open Go.RowKit
/-! ### bytes -/
theorem addr_addB (b off n : Nat) : (⟨b, off, none⟩ : Addr).add n = ⟨b, off + n, none⟩ := by
  unfold Addr.add; split <;> simp_all
theorem cell_toB {w wr : World} {a : Addr} {v : Value} (h : w.cell? a = some v) (hb : Below w.heap.size w wr) : wr.cell? a = some v := (hb.cell (World.block_lt_of_cell? w _ h)).trans h
def u8V (b : Nat) : Value := .int .u8 b
def u8C (bs : List Nat) : List Value := bs.map u8V
theorem u8C_len (bs : List Nat) : (u8C bs).length = bs.length := by simp [u8C]
theorem u8C_app (xs ys : List Nat) : u8C (xs ++ ys) = u8C xs ++ u8C ys := by simp [u8C]
theorem u8C_one (xs : List Nat) : ∀ u ∈ u8C xs, u.oneCell' = true := by
  intro u hu
  obtain ⟨b, _, rfl⟩ := List.mem_map.1 hu
  rfl
/-- the row of bytes behind a slice's address -/
def ByteRow (w : World) (a : Option Addr) (bs : List Nat) : Prop :=
  bs = [] ∨ ∃ b off, a = some ⟨b, off, none⟩ ∧ b < w.heap.size ∧ ∀ i (h : i < bs.length), w.cell? ⟨b, off + i, none⟩ = some (.int .u8 (bs[i] : Nat))
theorem ByteRow.ext {w w' : World} {a : Option Addr} {bs : List Nat} (h : ByteRow w a bs) (hb : Below w.heap.size w w') : ByteRow w' a bs := by
  rcases h with rfl | ⟨b, off, rfl, hlt, hc⟩
  · exact .inl rfl
  · exact .inr ⟨b, off, rfl, by have := hb.size; omega, fun i hi => by rw [hb.cell (by exact hlt)]; exact hc i hi⟩
theorem ByteRow.extB {w w' : World} {a : Option Addr} {bs : List Nat} {B : Nat} (h : ByteRow w a bs) (hb : Below B w w') (hB : ∀ b off, a = some ⟨b, off, none⟩ → b < B) : ByteRow w' a bs := by
  rcases h with rfl | ⟨b, off, rfl, hlt, hc⟩
  · exact .inl rfl
  · exact .inr ⟨b, off, rfl, by have := hb.size; omega, fun i hi => by rw [hb.cell (by exact hB b off rfl)]; exact hc i hi⟩
theorem ByteRow.alloc {w : World} {a : Option Addr} {bs : List Nat} (h : ByteRow w a bs) (o : Obj) : ByteRow (w.alloc o) a bs := h.ext ((Below.refl _ _).alloc (Nat.le_refl _) _)
theorem ByteRow.grown {w w' : World} {a : Option Addr} {bs : List Nat} {row : Option Nat} (h : ByteRow w a bs) (hg : w.grownBy w' row) (hne : ∀ b off, a = some ⟨b, off, none⟩ → bs ≠ [] → row ≠ some b) : ByteRow w' a bs := by
  rcases h with rfl | ⟨b, off, rfl, hlt, hc⟩
  · exact .inl rfl
  · by_cases hl : bs = []
    · exact .inl hl
    · have hb := hg.block b hlt (fun e => hne b off rfl hl e.symm)
      exact .inr ⟨b, off, rfl, by have := hg.size; omega, fun i hi => (World.cell?_of_block (w := w) hb).trans (hc i hi)⟩
/-- the k-th byte, in any later world -/
theorem ByteRow.at {w wr : World} {a : Option Addr} {bs : List Nat} (h : ByteRow w a bs) {B : Nat} (hb : Below B w wr) (hB : B = w.heap.size) {k : Nat} (hk : k < bs.length) :
    ∃ b off x, a = some ⟨b, off, none⟩ ∧ x = bs[k] ∧ wr.cell? ⟨b, off + k, none⟩ = some (.int .u8 (x : Nat)) := by
  subst hB
  rcases h with rfl | ⟨b, off, rfl, hlt, hc⟩
  · simp at hk
  · exact ⟨b, off, bs[k], rfl, rfl, by rw [hb.cell (by exact hlt)]; exact hc k hk⟩
theorem ByteRow.cells {w : World} {b off : Nat} {bs : List Nat} (hc : ∀ i (h : i < bs.length), w.cell? ⟨b, off + i, none⟩ = some (.int .u8 (bs[i] : Nat))) :
    ∀ j u, (u8C bs)[j]? = some u → w.cell? ((⟨b, off, none⟩ : Addr).add j) = some u := by
  intro j u hu
  have hj : j < (u8C bs).length := (List.getElem?_eq_some_iff.1 hu).1
  rw [u8C_len] at hj
  rw [addr_addB]
  rw [hc j hj, ← hu]
  simp [u8C, u8V, hj]
/-- a cut of the row -/
theorem ByteRow.from {w : World} {a : Option Addr} {bs : List Nat} {k : Nat} {b off : Nat} (ha : a = some ⟨b, off, none⟩) (h : ByteRow w a bs) : ByteRow w (some ⟨b, off + k, none⟩) (bs.drop k) := by
  subst ha
  rcases h with rfl | ⟨b', off', e, hlt, hc⟩
  · exact .inl (by simp)
  · cases e
    refine .inr ⟨b, off + k, rfl, hlt, fun i hi => ?_⟩
    have := hc (k + i) (by simp at hi; omega)
    rw [List.getElem_drop, Nat.add_assoc]; exact this
theorem infoB : (Tryz.prog.info? 5).map (fun i => (i.zero, i.size, i.bytes)) = some (some (.int .u8 0), 1, 1) := by kernel_rfl
/-- a slice value that owns a row of bytes, from block base on -/
def OwnB (w : World) (base : Nat) (v : Value) (bs : List Nat) : Prop := w.ownsRow base 5 1 v bs.length (u8C bs)
theorem OwnB.nil (w : World) (base : Nat) : OwnB w base (.slice none 0 0) [] := World.ownsRow_nil _ _ _ _
theorem OwnB.ext {w w' : World} {base : Nat} {v : Value} {bs : List Nat} (h : OwnB w base v bs) (hb : Below w.heap.size w w') : OwnB w' base v bs := by
  refine ⟨h.1, ?_⟩
  rcases h.2 with hn | ⟨g, cap, cur, rfl, hbb, hgg, rest⟩
  · exact .inl hn
  · exact .inr ⟨g, cap, cur, rfl, hbb, (hb.block g (Array.getElem?_eq_some_iff.1 hgg).1).trans hgg, rest⟩
theorem OwnB.alloc {w : World} {base : Nat} {v : Value} {bs : List Nat} (h : OwnB w base v bs) (o : Obj) : OwnB (w.alloc o) base v bs := h.ext ((Below.refl _ _).alloc (Nat.le_refl _) _)
theorem OwnB.mono {w : World} {b b' : Nat} {v : Value} {bs : List Nat} (h : OwnB w b v bs) (hb : b' ≤ b) : OwnB w b' v bs := by
  refine ⟨h.1, ?_⟩
  rcases h.2 with hn | ⟨g, cap, cur, rfl, hbb, rest⟩
  · exact .inl hn
  · exact .inr ⟨g, cap, cur, rfl, Nat.le_trans hb hbb, rest⟩
theorem OwnB.row {w : World} {base : Nat} {v : Value} {bs : List Nat} (h : OwnB w base v bs) : ∃ a c, v = .slice a bs.length c ∧ ByteRow w a bs ∧ ∀ b off, a = some ⟨b, off, none⟩ → base ≤ b := by
  have hcells := fun g => World.ownsRow.cells (g := g) h
  rcases h.2 with ⟨rfl, hn⟩ | ⟨g, cap, cur, rfl, hb, hg, hnc, hcm, hcs, htake⟩
  · exact ⟨none, 0, by rw [hn], .inl (List.length_eq_zero_iff.1 hn), by simp⟩
  · refine ⟨_, cap, rfl, .inr ⟨g, 0, rfl, (Array.getElem?_eq_some_iff.1 hg).1, fun i hi => ?_⟩, fun b off e => by cases e; exact hb⟩
    have h1 := hcells g rfl i (.int .u8 (bs[i] : Nat)) (by simp [u8C, u8V, hi])
    rw [addr_addB] at h1
    exact h1
theorem OwnB.butT {w w' : World} {base t : Nat} {v : Value} {bs : List Nat} (h : OwnB w base v bs) (hb : ∀ k, k ≠ t → w'.heap[k]? = w.heap[k]?) (ht : some t ≠ v.ownBlock) : OwnB w' base v bs := by
  refine ⟨h.1, ?_⟩
  rcases h.2 with hn | ⟨g, cap, cur, rfl, hbb, hgg, rest⟩
  · exact .inl hn
  · exact .inr ⟨g, cap, cur, rfl, hbb, (hb g (fun e => ht (by rw [e]; rfl))).trans hgg, rest⟩
theorem run_appendB {w : World} {base : Nat} {v : Value} {xs ys : List Nat} (hown : OwnB w base v xs) {a : Option Addr} {c : Nat} (hy : ByteRow w a ys) (hlen : xs.length + ys.length ≤ 1099511627776) (hbase : base ≤ w.heap.size) (ty : TypeId) :
    ∃ v' w', (Builtin.append_ #[29, 29] ty #[v, .slice a ys.length c]).run Tryz.prog w = .ok v' w' ∧ OwnB w' base v' (xs ++ ys) ∧ w.grownBy w' v.ownBlock ∧ (v'.ownBlock = v.ownBlock ∨ v'.ownBlock = some w.heap.size) := by
  obtain ⟨i0, hi, hz0, hz1, hz2⟩ := info_parts infoB
  have main : ∀ ad : Addr, a = some ad → (∀ j u, (u8C ys)[j]? = some u → w.cell? (ad.add j) = some u) → ∃ v' w', (Builtin.append_ #[29, 29] ty #[v, .slice a ys.length c]).run Tryz.prog w = .ok v' w' ∧ OwnB w' base v' (xs ++ ys) ∧ w.grownBy w' v.ownBlock ∧ (v'.ownBlock = v.ownBlock ∨ v'.ownBlock = some w.heap.size) := by
    intro ad he hc
    subst he
    obtain ⟨v', w', hr, h2, h3, h4, h5⟩ := run_append_own_at (P := Tryz.prog) w base 29 ty 5 i0 _ 1 1 Tryz.underlying29 hi hz0 hz1 hz2 rfl (by decide) v xs.length (u8C xs) hown ad ys.length c (u8C ys) (by rw [u8C_len]; omega) hc (u8C_one ys) (by unfold maxLen; omega) (by omega) hbase
    refine ⟨v', w', hr, ?_, h3, h5⟩
    unfold OwnB; rw [List.length_append, u8C_app]; exact h2
  rcases hy with rfl | ⟨b, off, rfl, hlt, hc⟩
  · cases a with
    | some ad => exact main ad rfl (by simp [u8C])
    | none =>
      refine ⟨v, w, ?_, by simpa using hown, ⟨rfl, rfl, rfl, Nat.le_refl _, fun _ _ _ => rfl⟩, .inl rfl⟩
      rcases hown.2 with ⟨rfl, hn⟩ | ⟨g, cap, cur, rfl, hb, hg, hnc, hcm, hcs, htake⟩
      · simp [Builtin.append_, run_underlying Tryz.underlying29, sizeOf, typeInfo, hi, Builtin.lenOf, Builtin.firstCells]
      · simp [Builtin.append_, run_underlying Tryz.underlying29, sizeOf, typeInfo, hi, Builtin.lenOf, Builtin.firstCells, hnc, storeCells]
  · exact main _ rfl (ByteRow.cells hc)
/-- 'append(out, ys...)' at the operation -/
theorem wpList_appendB {w : World} {ops : Array Oper} {rest : List Oper} {o : Oper} {a : Act} {Q : Exit → Act → World → Prop} {s x : Operand} {base : Nat} {v : Value} {xs ys : List Nat} (hown : OwnB w base v xs) {ad : Option Addr} {c n : Nat} (hy : ByteRow w ad ys) (hn : Hid (ys.length = n))
    (hlen : xs.length + n ≤ 1099511627776) (hbase : base ≤ w.heap.size)
    (hg : o.guard = none) (ho : o.op = .call { callee := .builtin .append, args := #[s, x], argTypes := #[29, 29] }) (hs : a.eval s = v) (hx : a.eval x = .slice ad n c)
    (h : ∀ v' w', OwnB w' base v' (xs ++ ys) → w.grownBy w' v.ownBlock → (v'.ownBlock = v.ownBlock ∨ v'.ownBlock = some w.heap.size) → wpList Tryz.prog ops Q rest (a.put o.dst v') w') : wpList Tryz.prog ops Q (o :: rest) a w := by
  have hn := hn.out; subst hn
  obtain ⟨v', w', hr, h2, h3, h4⟩ := run_appendB hown (c := c) hy hlen hbase o.type
  exact Lib.wpList_append_run w hg s x 29 29 ho _ _ hs hx v' w' hr (h v' w' h2 h3 h4)
/-- one byte in a block of its own -/
theorem ByteRow.one (w : World) (x : Nat) : ByteRow (w.alloc (.cells #[.int .u8 x] 5)) (some ⟨w.heap.size, 0, none⟩) [x] :=
  .inr ⟨w.heap.size, 0, rfl, by simp, fun i hi => by have : i = 0 := by simpa using hi
                                                     subst this; simp⟩
theorem below_of_grown {B : Nat} {w0 w w' : World} {base : Nat} {v : Value} {xs : List Nat} (hb : Below B w0 w) (hg : w.grownBy w' v.ownBlock) (hown : OwnB w base v xs) (hB : B ≤ w.heap.size) (hbase : B ≤ base) : Below B w0 w' :=
  hb.grown hg hB (fun g hg => Nat.le_trans hbase (World.ownsRow.lt hown g hg).1)
theorem run_makeB (w : World) (n m : Nat) (h : n + m ≤ 1099511627776) : (Instr.makeSlice 29 (.int .i64 (n : Nat)) (.int .i64 ((n : Int) + (m : Int)))).run Tryz.prog w = .ok (.slice (some ⟨w.heap.size, 0, none⟩) n (n + m)) (w.alloc (.cells (madeCells #[.int .u8 0] (n + m)) 5)) := by
  obtain ⟨i0, hi, hz0, hz1, hz2⟩ := info_parts infoB
  have := run_make (P := Tryz.prog) w 29 5 i0 (.int .u8 0) Tryz.underlying29 hi hz0 .i64 .i64 (n : Nat) ((n : Int) + (m : Int)) (by omega) (by omega) (by rw [hz2]; omega) (by omega)
  rw [hz1] at this
  have e1 : ((n : Int) + (m : Int)).toNat = n + m := by omega
  have e2 : ((n : Nat) : Int).toNat = n := by omega
  rw [e1, e2] at this
  simpa [Value.cells] using this

/-! ### short forms -/
def short (n : Nat) : List Nat := if h : n < 128 then [n] else (n % 128 + 128) :: short (n / 128)
termination_by n
decreasing_by omega
theorem short_lt {n : Nat} (h : n < 128) : short n = [n] := by rw [short]; simp [h]
theorem short_ge {n : Nat} (h : ¬ n < 128) : short n = (n % 128 + 128) :: short (n / 128) := by rw [short]; simp [h]
theorem short_len : ∀ (k n : Nat), n < 128 ^ (k + 1) → (short n).length ≤ k + 1
  | 0, n, h => by rw [short_lt (by simpa using h)]; simp
  | k + 1, n, h => by
    by_cases hn : n < 128
    · rw [short_lt hn]; simp
    · rw [short_ge hn]
      have := short_len k (n / 128) (by rw [Nat.pow_succ] at h; omega)
      simp; omega
theorem short_len10 {n : Nat} (h : n < 18446744073709551616) : (short n).length ≤ 10 := short_len 9 n (by omega)
end Go.Proofs.YtppapeoainafbaaGreatDoor

namespace Go.Proofs.YtppapeoainafbaaGreatDoor
open Go.RowKit
set_option maxRecDepth 100000 in
set_option maxHeartbeats 800000 in
theorem room_any {a : Option Addr} {c n : Nat} {bs : List Nat} {w : World} (m : Nat) (hn : Hid (bs.length = n)) (hl : n ≤ 549755813888) (hm : m ≤ 549755813888) (hrow : ByteRow w a bs) :
    Calls Tryz.prog 135 #[.slice a n c, .int .i64 m] w fun e w' => ∃ v, e = .returned v ∧ OwnB w' w.heap.size v bs ∧ Below w.heap.size w w' := by
  obtain ⟨i0, hi, hz0, hz1, hz2⟩ := info_parts infoB
  have hmk := run_makeB w n m (by omega)
  obtain ⟨Z, hZ⟩ : ∃ Z, madeCells #[.int .u8 0] (n + m) = Z := ⟨_, rfl⟩
  have hZs : Z.size = n + m := by rw [← hZ]; exact size_madeCells _ _
  rw [hZ] at hmk
  have HZ := hid hZs
  clear hZ hZs
  have hsz : (Tryz.prog.info? 5).map (·.size) = some 1 := by rw [hi]; simp [hz1]
  have hB : Below w.heap.size w (w.alloc (.cells Z 5)) := (Below.refl _ _).alloc (Nat.le_refl _) _
  have hpos : 0 < (u8C bs).length → (some ⟨w.heap.size, 0, none⟩ : Option Addr) = some ⟨w.heap.size, 0, none⟩ ∧ ∃ ad, a = some ad ∧ ∀ j v, (u8C bs)[j]? = some v → (w.alloc (.cells Z 5)).cell? (ad.add j) = some v := by
    intro h
    rcases hrow.alloc (.cells Z 5) with rfl | ⟨b, off, rfl, hlt, hc⟩
    · simp [u8C] at h
    · exact ⟨rfl, _, rfl, ByteRow.cells hc⟩
  have HPOS := hid hpos
  have HSZ := hid hsz
  clear hpos hsz
  go_enter Tryz.func135, Tryz.ntmps135
  go_wp2_with (with_reducible refine wpList_copy_splice rfl (.tmp 13) (.tmp 14) 29 29 rfl 5 Tryz.underlying29 HSZ.out (some ⟨w.heap.size, 0, none⟩) a n (n + m) n c rfl rfl w.heap.size 0 Z.toList 5 (by rw [Array.toArray_toList]; exact heap_alloc_new w _) (u8C bs) (by rw [u8C_len, hn.out]; simp) HPOS.out (by rw [u8C_len, hn.out]; have := HZ.out; simp; omega) (u8C_one bs) w.heap.size w hB (Nat.le_refl _) ?_; intro w4 hg4 hb4)
  go_ret
  refine ⟨_, rfl, ?_, hb4⟩
  unfold OwnB
  rw [hn.out]
  have h1 := hg4.out
  have hlen : (u8C bs).length = n := by rw [u8C_len, hn.out]
  have hZt : Z.toList.length = n + m := by have := HZ.out; simpa using this
  refine ⟨by rw [hlen]; omega, .inr ⟨w.heap.size, n + m, (splice Z.toList 0 (u8C bs)).toArray, rfl, Nat.le_refl _, h1, by omega, by unfold maxLen; omega, ?_, ?_⟩⟩
  · simp [length_splice Z.toList 0 (u8C bs) (by omega), hZt]
  · simp [splice, hlen]
theorem or128 (n : Nat) : bits .or .u8 ((n : Int) % 256) 128 = ((n % 128 + 128 : Nat) : Int) := by
  have := u8_or_nat (n % 256) 128 (by omega) (by decide)
  rw [show ((128 : Nat) : Int) = 128 from rfl, show ((n % 256 : Nat) : Int) = (n : Int) % 256 by omega] at this
  rw [this]
  congr 1
  have h2 := Nat.two_pow_add_eq_or_of_lt (i := 7) (b := n % 128) (by omega) 1
  have h3 : n % 256 ||| 128 = n % 128 ||| 128 := by
    apply Nat.eq_of_testBit_eq
    intro j
    rw [Nat.testBit_or, Nat.testBit_or, show (256 : Nat) = 2 ^ 8 from rfl, show n % 128 = n % 2 ^ 7 from rfl, Nat.testBit_mod_two_pow, Nat.testBit_mod_two_pow]
    have e : (128 : Nat).testBit j = decide (j = 7) := by
      rw [show (128 : Nat) = 2 ^ 7 from rfl, Nat.testBit_two_pow]
      rw [Bool.eq_iff_iff]; simp; omega
    rw [e]
    by_cases h : j = 7
    · simp [h]
    · have : (j < 8 ↔ j < 7) := by omega
      simp [h, this]
  rw [h3, Nat.or_comm]
  simpa [Nat.add_comm] using h2.symm
set_option maxRecDepth 100000 in
set_option maxHeartbeats 1600000 in
theorem putShort_any {a : Option Addr} {c n : Nat} {bs : List Nat} {w : World} (m : Nat) (hn : Hid (bs.length = n)) (hl : n ≤ 274877906944) (hm : m < 18446744073709551616) (hrow : ByteRow w a bs) :
    Calls Tryz.prog 104 #[.slice a n c, .int .u64 m] w fun e w' => ∃ v, e = .returned v ∧ OwnB w' w.heap.size v (bs ++ short m) ∧ Below w.heap.size w w' := by
  have hl10 := short_len10 hm
  obtain ⟨F, hF⟩ : ∃ F, bs ++ short m = F := ⟨_, rfl⟩
  have hFl : F.length ≤ n + 10 := by rw [← hF, List.length_append, hn.out]; omega
  rw [hF]
  have HF := hid hF
  clear hF
  go_enter Tryz.func104, Tryz.ntmps104
  go_wp2_with (go_at_call 135; refine (room_any 10 hn (by omega) (by decide) hrow).mono ?_; rintro e w1 ⟨v1, rfl, hown1, hb1⟩)
  go_loopw [1, 5] (fun i v wr => ∃ (k : Nat) (got : List Nat), k < 18446744073709551616 ∧ i = .int .u64 k ∧ Hid (F = got ++ short k) ∧ OwnB wr w.heap.size v got ∧ Below w.heap.size w wr) (fun i _ _ => (intOf i).toNat)
  case atStart => exact ⟨m, bs, hm, rfl, HF.out.symm, hown1, hb1⟩
  case round =>
    obtain ⟨k, got, hk, rfl, hM, hown, hb⟩ := hrel
    have hgl : got.length ≤ n + 10 := by have := congrArg List.length hM.out; rw [List.length_append] at this; omega
    have hsz := hb.size
    by_cases hge : 128 ≤ k
    · have hge' : decide (128 ≤ k) = true := by simpa using hge
      obtain ⟨x, hx⟩ : ∃ x, k % 128 + 128 = x := ⟨_, rfl⟩
      have e2 : bits .or .u8 ((k : Int) % 256) 128 = ((x : Nat) : Int) := by rw [← hx]; exact or128 k
      have hM2 : Hid (F = (got ++ [x]) ++ short (k / 128)) := hid (by rw [hM.out, short_ge (by omega), hx]; simp)
      clear hx
      go_wp2_with (at_builtin; refine wpList_appendB (hown.alloc _) (ByteRow.one _ x) (hid rfl) (by simp; omega) (by simp; omega) rfl rfl rfl rfl ?_; intro v2 w2 hown2 hg2 hat2)
      have hB2 : Below w.heap.size w w2 := below_of_grown (hb.alloc hsz _) hg2 (hown.alloc _) (by simp; omega) (Nat.le_refl _)
      go_roundw
      case rel => exact ⟨k / 128, got ++ [x], by omega, by go_num, hM2, hown2, hB2⟩
      case measure => simp [intOf]; omega
    · have hge' : decide (128 ≤ k) = false := by simpa using hge
      have hM2 : Hid (F = got ++ [k]) := hid (by rw [hM.out, short_lt (by omega)])
      have e3 : (k : Int) % 256 = k := by omega
      go_wp2_with (at_builtin; refine wpList_appendB (hown.alloc _) (ByteRow.one _ k) (hid rfl) (by simp; omega) (by simp; omega) rfl rfl rfl rfl ?_; intro v2 w2 hown2 hg2 hat2)
      have hB2 : Below w.heap.size w w2 := below_of_grown (hb.alloc hsz _) hg2 (hown.alloc _) (by simp; omega) (Nat.le_refl _)
      go_ret
      exact ⟨_, rfl, by rw [hM2.out]; exact hown2, hB2⟩
end Go.Proofs.YtppapeoainafbaaGreatDoor

namespace Go.Proofs.YtppapeoainafbaaGreatDoor
open Go.RowKit
/-! ### a process's form in plain words -/
def pidF (p : Pid) : List Nat := short p.1.toNat ++ short p.2.toNat
def okP (p : Pid) : Prop := 0 ≤ p.1 ∧ p.1 < 65536 ∧ 0 ≤ p.2 ∧ p.2 < 4294967296
end Go.Proofs.YtppapeoainafbaaGreatDoor

namespace Go.Proofs.YtppapeoainafbaaGreatDoor
open Go.RowKit
theorem putShort_is {a : Option Addr} {c n : Nat} {bs F : List Nat} {w : World} {m : Nat} (hF : Hid (bs ++ short m = F)) (hn : Hid (bs.length = n)) (hl : n ≤ 274877906944) (hm : m < 18446744073709551616) (hrow : ByteRow w a bs) :
    Calls Tryz.prog 104 #[.slice a n c, .int .u64 m] w fun e w' => ∃ a' c', e = .returned (.slice a' F.length c') ∧ OwnB w' w.heap.size (.slice a' F.length c') F ∧ ByteRow w' a' F ∧ Below w.heap.size w w' := by
  refine (putShort_any (c := c) m hn hl hm hrow).mono ?_
  rintro e w' ⟨v, rfl, hown, hb⟩
  rw [hF.out] at hown
  obtain ⟨a', c', rfl, hr, -⟩ := hown.row
  exact ⟨a', c', rfl, hown, hr, hb⟩
theorem relB {w w0 : World} {K : Nat} {args : Array Value} {Q : Ending → World → Prop} (hb : Below w0.heap.size w0 w) (h : Calls Tryz.prog K args w fun e w' => Q e w' ∧ Below w.heap.size w w') : Calls Tryz.prog K args w fun e w' => Q e w' ∧ Below w0.heap.size w0 w' :=
  h.mono fun _ _ ⟨h1, h2⟩ => ⟨h1, hb.trans (h2.mono hb.size)⟩
set_option maxRecDepth 100000 in
set_option maxHeartbeats 1600000 in
theorem pidPut_any {a : Option Addr} {c n : Nat} {bs : List Nat} {w : World} (x y : Nat) (hn : Hid (bs.length = n)) (hl : n ≤ 137438953472) (hx : x < 65536) (hy : y < 4294967296) (hrow : ByteRow w a bs) :
    Calls Tryz.prog 105 #[.slice a n c, .agg #[.int .u16 x, .int .u32 y]] w fun e w' => ∃ v, e = .returned v ∧ OwnB w' w.heap.size v (bs ++ (short x ++ short y)) ∧ Below w.heap.size w w' := by
  have hB : Below w.heap.size w (w.alloc (.cells #[.int .u16 x, .int .u32 y] 25)) := (Below.refl _ _).alloc (Nat.le_refl _) _
  have hr1 := hrow.ext hB
  have hlx := short_len10 (n := x) (by omega)
  obtain ⟨F, hF⟩ : ∃ F, bs ++ short x = F := ⟨_, rfl⟩
  obtain ⟨NF, hNF⟩ : ∃ NF, F.length = NF := ⟨_, rfl⟩
  have hNFl : NF ≤ n + 10 := by rw [← hNF, ← hF, List.length_append, hn.out]; omega
  have HF2 : Hid (bs ++ (short x ++ short y) = F ++ short y) := hid (by rw [← hF, List.append_assoc])
  have hc0 : (w.alloc (.cells #[.int .u16 x, .int .u32 y] 25)).cell? ⟨w.heap.size, 0, none⟩ = some (.int .u16 x) := by simp
  have hc1 : (w.alloc (.cells #[.int .u16 x, .int .u32 y] 25)).cell? ⟨w.heap.size, 1, none⟩ = some (.int .u32 y) := by simp
  have HF := hid hF
  have HNF := hid hNF
  clear hF hNF
  obtain ⟨w1, hw1⟩ : ∃ w1, w.alloc (.cells #[.int .u16 x, .int .u32 y] 25) = w1 := ⟨_, rfl⟩
  rw [hw1] at hB hr1 hc0 hc1
  have H0 : Below w1.heap.size w1 w1.drew := (Below.refl _ _).drew
  have HS : Hid (∀ W, Below w1.heap.size w1 W → Below w1.heap.size w1 W ∧ W.cell? ⟨w.heap.size, 0, none⟩ = some (.int .u16 x) ∧ W.cell? ⟨w.heap.size, 1, none⟩ = some (.int .u32 y)) := hid fun W h => ⟨h, cell_toB hc0 h, cell_toB hc1 h⟩
  have C1 : Hid (∀ W, Below w1.heap.size w1 W → Calls Tryz.prog 104 #[.slice a n c, .int .u64 x] W fun e w' => ∃ a' c', e = .returned (.slice a' NF c') ∧ ByteRow w' a' F ∧ Below w1.heap.size w1 w') := hid fun W h => ((putShort_is HF hn (by omega) (by omega) (hr1.ext h)).mono fun e w' ⟨a', c', h1, _, h3, h4⟩ => ⟨a', c', by rw [← HNF.out]; exact h1, h3, h.trans (h4.mono h.size)⟩)
  have C2 : Hid (∀ W a' c', Below w1.heap.size w1 W → ByteRow W a' F → Calls Tryz.prog 104 #[.slice a' NF c', .int .u64 y] W fun e w' => ∃ v, e = .returned v ∧ OwnB w' w1.heap.size v (F ++ short y) ∧ Below w1.heap.size w1 w') := hid fun W a' c' h hr => ((putShort_any y HNF (by omega) (by omega) hr).mono fun e w' ⟨v, h1, h3, h4⟩ => ⟨v, h1, h3.mono h.size, h.trans (h4.mono h.size)⟩)
  clear hr1 hc0 hc1 hrow
  have ew1 : IntKind.u64.wrap ((x : Nat) : Int) = ((x : Nat) : Int) := by rw [IntKind.wrap_u64]; omega
  have ew2 : IntKind.u64.wrap ((y : Nat) : Int) = ((y : Nat) : Int) := by rw [IntKind.wrap_u64]; omega
  go_enter Tryz.func105, Tryz.ntmps105
  go_wp2
  go_region_held3 (fun W => Below w1.heap.size w1 W ∧ W.cell? ⟨w.heap.size, 0, none⟩ = some (.int .u16 x) ∧ W.cell? ⟨w.heap.size, 1, none⟩ = some (.int .u32 y)) (first | exact HS.out _ H0 | exact HS.out _ (by assumption)) (first
    | ((go_at_call 104; (with_reducible refine (C1.out _ (by first | exact H0 | assumption)).mono ?_); rintro e w11 ⟨a11, c11, rfl, hrow11, hb11⟩))
    | ((go_at_call 104; (with_reducible refine (C2.out _ _ _ (by assumption) (by assumption)).mono ?_); rintro e w12 ⟨v12, rfl, hown12, hb12⟩)))
  all_goals (
    clear ew1 ew2
    go_wp2
    go_ret
    exact ⟨_, rfl, by rw [HF2.out]; exact hown12.mono hB.size, hB.trans (hb12.mono hB.size)⟩)
end Go.Proofs.YtppapeoainafbaaGreatDoor

namespace Go.Proofs.YtppapeoainafbaaGreatDoor
open Go.RowKit
theorem step_appendB {w : World} {o : Oper} {a : Go.Act} {K : Go.Act → World → Prop} {Q : Exit → Go.Act → World → Prop} {y : Nat → Option Bool} {s x : Operand} {base : Nat} {v : Value} {xs ys : List Nat} {ad : Option Addr} {n c : Nat} (hw : Region.wanted o y = true) (hown : OwnB w base v xs) (hy : ByteRow w ad ys) (hn : Hid (ys.length = n))
    (hlen : xs.length + n ≤ 1099511627776) (hbase : base ≤ w.heap.size)
    (ho : o.op = .call { callee := .builtin .append, args := #[s, x], argTypes := #[29, 29] }) (hs : a.eval s = v) (hx : a.eval x = .slice ad n c)
    (h : ∀ v' w', OwnB w' base v' (xs ++ ys) → w.grownBy w' v.ownBlock → K (a.put o.dst v') w') : if Region.wanted o y = true then Oper.wp Tryz.prog o a w K Q else K (a.put o.dst undef) w := by
  rw [if_pos hw]
  have hn := hn.out; subst hn
  obtain ⟨v', w', hr, h2, h3, h4⟩ := run_appendB hown (c := c) hy hlen hbase o.type
  exact Lib.wp_append_run w s x 29 29 ho _ _ hs hx v' w' hr (h v' w' h2 h3)
theorem ByteRow.cut {w : World} {a : Option Addr} {bs : List Nat} (h : ByteRow w a bs) {k c : Nat} (hc : bs.length ≤ c) : ByteRow w (if c = k then a else a.map (·.add (k * 1))) (bs.drop k) := by
  by_cases hk : k < bs.length
  · rw [if_neg (by omega)]
    rcases h with rfl | ⟨b, off, rfl, hb, hcell⟩
    · simp at hk
    · refine .inr ⟨b, off + k, by simp [addr_addB], hb, fun i hi => ?_⟩
      simp only [List.length_drop] at hi
      have := hcell (k + i) (by omega)
      rw [List.getElem_drop, show off + k + i = off + (k + i) by omega]
      exact this
  · rw [List.drop_eq_nil_of_le (by omega)]; exact .inl rfl
end Go.Proofs.YtppapeoainafbaaGreatDoor

namespace Go.Proofs.YtppapeoainafbaaGreatDoor
open Go.RowKit
def eqB : List Nat → List Nat → Bool
  | [], _ => true
  | _ :: _, [] => true
  | x :: l, y :: r => if x = y then eqB l r else false
theorem eqB_drop {xs ys : List Nat} {k : Nat} (h : k < xs.length) (h' : k < ys.length) {p q : Nat} (hp : p = xs[k]) (hq : q = ys[k]) : eqB (xs.drop k) (ys.drop k) = if p = q then eqB (xs.drop (k + 1)) (ys.drop (k + 1)) else false := by
  rw [List.drop_eq_getElem_cons h, List.drop_eq_getElem_cons h', ← hp, ← hq]; rfl
theorem eqB_iff : ∀ {xs ys : List Nat}, xs.length = ys.length → (eqB xs ys = true ↔ xs = ys)
  | [], [], _ => by simp [eqB]
  | x :: l, y :: r, h => by
    have ih := eqB_iff (xs := l) (ys := r) (by simpa using h)
    simp only [eqB]
    by_cases hxy : x = y
    · rw [if_pos hxy, ih]; simp [hxy]
    · rw [if_neg hxy]; simp [hxy]
  | [], y :: r, h => by simp at h
  | x :: l, [], h => by simp at h
theorem eqB_eq {xs ys : List Nat} (h : xs.length = ys.length) : decide (xs = ys) = eqB xs ys := by
  rw [Bool.eq_iff_iff, eqB_iff h]; simp
set_option maxRecDepth 100000 in
set_option maxHeartbeats 800000 in
theorem sameB_any {a b : Option Addr} {ca cb n m : Nat} {xs ys : List Nat} {w : World} (hn : Hid (xs.length = n)) (hm : Hid (ys.length = m)) (hnl : n ≤ 70368744177664) (hml : m ≤ 70368744177664) (hx : ByteRow w a xs) (hy : ByteRow w b ys) :
   Calls Tryz.prog 22 #[.slice a n ca, .slice b m cb] w fun e w' => e = .returned (.bool (decide (xs = ys))) ∧ Below w.heap.size w w' := by
  by_cases hl : n = m
  · have hsp := eqB_eq (xs := xs) (ys := ys) (by rw [hn.out, hm.out]; exact hl)
    subst hl
    have hl' : ((n : Int) != (n : Int)) = false := by simp
    have HSP := hid hsp
    clear hsp
    go_enter Tryz.func22, Tryz.ntmps22
    go_wp2
    go_loopw [4, 5] (fun rs kv wr => rs = .bool false ∧ ∃ k : Nat, k ≤ n ∧ kv = .int .i64 k ∧ Hid (decide (xs = ys) = eqB (xs.drop k) (ys.drop k)) ∧ Below w.heap.size w wr) (fun _ kv _ => n - (intOf kv).toNat)
    case atStart => exact ⟨rfl, 0, Nat.zero_le _, rfl, HSP, Below.refl _ _⟩
    case round =>
      obtain ⟨rfl, k, hk, rfl, ha, hb⟩ := hrel
      by_cases hkt : k < n
      · have hk1 : k < xs.length := by rw [hn.out]; exact hkt
        have hk2 : k < ys.length := by rw [hm.out]; exact hkt
        obtain ⟨b1, o1, x1, rfl, hx1, q0⟩ := hx.at hb rfl hk1
        obtain ⟨b2, o2, x2, rfl, hx2, q2⟩ := hy.at hb rfl hk2
        have hd := eqB_drop hk1 hk2 hx1 hx2
        have HD := hid hd
        clear hd hx1 hx2
        by_cases hxy : x1 = x2
        · have HXY := hid hxy
          have e1 : ((x1 : Int) != (x2 : Int)) = false := by simp [hxy]
          clear hxy
          go_wp2
          go_quiet (fail)
          go_wp2
          go_roundw
          case rel => exact ⟨rfl, k + 1, by omega, by go_num, (ha.out.trans (by rw [HD.out, if_pos HXY.out]) : _), below_drewN hb _⟩
          case measure => simp [intOf]; omega
        · have HXY : Hid (¬ x1 = x2) := hxy
          have e1 : ((x1 : Int) != (x2 : Int)) = true := by simp; omega
          clear hxy
          go_wp2
          go_quiet (fail)
          go_wp2
          go_ret
          exact ⟨ret_bool (by rw [ha.out, HD.out, if_neg HXY.out]), below_drewN hb _⟩
      · go_wp2
        go_ret
        exact ⟨ret_bool (by rw [ha.out, List.drop_eq_nil_of_le (by rw [hn.out]; omega)]; rfl), hb⟩
  · have hne : decide (xs = ys) = false := by simp; intro e; exact hl (by rw [← hn.out, ← hm.out, e])
    have hl' : ((n : Int) != (m : Int)) = true := by rw [bne_iff_ne]; omega
    have HN := hid hne
    clear hne hl
    go_enter Tryz.func22, Tryz.ntmps22
    go_wp2
    go_ret
    exact ⟨ret_bool HN.out.symm, Below.refl _ _⟩
theorem sameB_is {a b : Option Addr} {ca cb n m : Nat} {xs ys : List Nat} {w : World} {bm : Bool} (h : Hid (decide (xs = ys) = bm)) (hn : Hid (xs.length = n)) (hm : Hid (ys.length = m)) (hnl : n ≤ 70368744177664) (hml : m ≤ 70368744177664) (hx : ByteRow w a xs) (hy : ByteRow w b ys) :
   Calls Tryz.prog 22 #[.slice a n ca, .slice b m cb] w fun e w' => e = .returned (.bool bm) ∧ Below w.heap.size w w' := by
  have := sameB_any (ca := ca) (cb := cb) (w := w) hn hm hnl hml hx hy
  rw [h.out] at this; exact this
/-! ### lent bytes -/
/-- what a row in the making holds, as far as k -/
structure Fill (w : World) (g k : Nat) (F : List Nat) : Prop where
  cells : ∀ j (h : j < F.length), j < k → w.cell? ⟨g, j, none⟩ = some (.int .u8 (F[j] : Nat))
  there : ∀ j, j < F.length → (w.cell? ⟨g, j, none⟩).isSome = true
  fro : ∀ j, w.frozen? ⟨g, j, none⟩ = false
theorem Fill.step {w : World} {g k : Nat} {F : List Nat} (h : Fill w g k F) {x : Nat} (hk : k < F.length) (hx : x = F[k]) : Fill (w.setCell ⟨g, k, none⟩ (.int .u8 x)) g (k + 1) F := by
  refine ⟨fun j hj hjk => ?_, fun j hj => ?_, fun j => by simp [h.fro]⟩
  · by_cases e : j = k
    · subst e
      obtain ⟨v, hv⟩ := Option.isSome_iff_exists.1 (h.there j hj)
      rw [World.cell?_setCell_same _ _ _ hv, hx]
    · rw [World.cell?_setCell_other _ _ _ _ (by simp <;> omega)]
      exact h.cells j hj (by omega)
  · by_cases e : j = k
    · subst e
      obtain ⟨v, hv⟩ := Option.isSome_iff_exists.1 (h.there j hj)
      rw [World.cell?_setCell_same _ _ _ hv]; rfl
    · rw [World.cell?_setCell_other _ _ _ _ (by simp <;> omega)]
      exact h.there j hj
theorem Fill.made (w : World) (Z : Array Value) (F : List Nat) (h : F.length ≤ Z.size) : Fill (w.alloc (.cells Z 5)) w.heap.size 0 F := by
  refine ⟨fun j _ h => by omega, fun j hj => ?_, fun j => by simp⟩
  have : (w.alloc (.cells Z 5)).cell? ⟨w.heap.size, j, none⟩ = Z[j]? := by simp
  rw [this]; simp; omega
theorem Fill.row {w : World} {g k : Nat} {F : List Nat} (h : Fill w g k F) (hk : F.length ≤ k) (hg : g < w.heap.size) : ByteRow w (some ⟨g, 0, none⟩) F :=
  .inr ⟨g, 0, rfl, hg, fun i hi => by rw [Nat.zero_add]; exact h.cells i hi (by omega)⟩
end Go.Proofs.YtppapeoainafbaaGreatDoor

namespace Go.Proofs.YtppapeoainafbaaGreatDoor
open Go.RowKit
/-! ### the forms, and the readers, in plain words -/
def pidsF (l : List Pid) : List Nat := short l.length ++ l.flatMap pidF
def rankF (ms : List Pid) (p : Pid) : List Nat := short (atIx ms p).toNat
def placesF (ms l : List Pid) : List Nat := short l.length ++ l.flatMap (rankF ms)
def viewF (V : View) : List Nat := short V.id.toNat ++ (pidsF V.ms ++ (short V.ls.length ++ (V.ls.flatMap (placesF V.ms) ++ placesF V.ms V.ds)))
/-- what is left to read, and what stopped it -/
structure RS where
  b : List Nat
  e : Nat
def zeroV : View := ⟨0, [], [], []⟩
/-! ### what was laid is read as it was -/
theorem atIx_get {ms : List Pid} {p : Pid} (h : p ∈ ms) : 0 ≤ atIx ms p ∧ (atIx ms p).toNat < ms.length ∧ ms.getD (atIx ms p).toNat (0, 0) = p := by
  have key : ∀ (xs : List Pid) (k : Nat), p ∈ xs → ∃ j : Nat, j < xs.length ∧ atFrom p xs k = ((k + j : Nat) : Int) ∧ xs.getD j (0, 0) = p := by
    intro xs
    induction xs with
    | nil => intro k h; cases h
    | cons x r ih =>
      intro k h
      unfold atFrom
      by_cases hx : x = p
      · exact ⟨0, by simp, by rw [if_pos hx]; simp, by simpa using hx⟩
      · rw [if_neg hx]
        have hr : p ∈ r := by
          rcases List.mem_cons.1 h with h | h
          · exact absurd h.symm hx
          · exact h
        obtain ⟨j, h1, h2, h3⟩ := ih (k + 1) hr
        exact ⟨j + 1, by simpa using h1, by rw [h2]; congr 1; omega, by simpa using h3⟩
  obtain ⟨j, h1, h2, h3⟩ := key ms 0 h
  unfold atIx
  rw [h2]
  simp only [Nat.zero_add, Int.toNat_natCast]
  exact ⟨by omega, h1, h3⟩
/-- a view that may be, as far as its form needs it -/
structure Laid (V : View) : Prop where
  id0 : 0 ≤ V.id
  id1 : V.id ≤ 4611686018427387904
  wf : ∀ p ∈ V.ms, okP p
  lm : V.ms.length ≤ 24
  ll : V.ls.length ≤ 24
  le : ∀ l ∈ V.ls, (∀ p ∈ l, p ∈ V.ms) ∧ l.length ≤ 24
  ld : (∀ p ∈ V.ds, p ∈ V.ms) ∧ V.ds.length ≤ 24
end Go.Proofs.YtppapeoainafbaaGreatDoor

namespace Go.Proofs.YtppapeoainafbaaGreatDoor
open Go.RowKit
/-! ### commands and beats in plain words -/
instance : DecidableEq View := fun a b => by
  obtain ⟨a1, a2, a3, a4⟩ := a
  obtain ⟨b1, b2, b3, b4⟩ := b
  exact decidable_of_iff (a1 = b1 ∧ a2 = b2 ∧ a3 = b3 ∧ a4 = b4) (by simp)
structure CmdD where
  kind : Int
  fr : Pid
  num : Nat
  vw : Nat
  data : List Nat
  v : View
def mayP (p : Pid) : Bool := decide (p.1 < 16) && decide (0 < p.2)
def cntB (n : Nat) : Bool := decide (1 ≤ n) && decide (n ≤ 4611686018427387904)
/-- P9.1: 0: it may be -/
def cmdChk (c : CmdD) : Nat :=
  if c.kind = 1 then (if c.fr = (0, 0) ∧ c.num = 0 ∧ c.vw = 0 ∧ c.data = [] ∧ c.v = zeroV then 0 else 1)
  else if c.kind = 2 then (if mayP c.fr = true ∧ cntB c.num = true ∧ cntB c.vw = true ∧ c.v = zeroV then (if 200 < c.data.length then 14 else 0) else 1)
  else if c.kind = 3 then (if c.fr = (0, 0) ∧ c.num = 0 ∧ c.vw = 0 ∧ c.data = [] ∧ refCheckB c.v = true then 0 else 1)
  else 1
def cmdF (c : CmdD) : List Nat :=
  short c.kind.toNat ++ (if c.kind = 2 then pidF c.fr ++ (short c.num ++ (short c.vw ++ (short c.data.length ++ c.data))) else if c.kind = 3 then viewF c.v else [])
def zeroC : CmdD := ⟨0, (0, 0), 0, 0, [], zeroV⟩
/-- data that stand in a command's cells -/
structure CmdWf (c : CmdD) : Prop where
  fr : okP c.fr
  ms : ∀ p ∈ c.v.ms, okP p
structure BeatD where
  v : Nat
  ap : Nat
  be : Nat
  st : Nat
  sus : List Pid
def aheadP (p q : Pid) : Bool := decide (p.1 < q.1 ∨ p.1 = q.1 ∧ p.2 < q.2)
def susB : Option Pid → List Pid → Bool
  | _, [] => true
  | pr, p :: l => (mayP p && (match pr with | none => true | some q => aheadP q p)) && susB (some p) l
def beatChk (x : BeatD) : Bool := decide (x.v ≤ 4611686018427387904) && (decide (x.ap ≤ 4611686018427387904) && (decide (x.be ≤ 4611686018427387904) && (decide (x.st ≤ 4611686018427387904) && (decide (x.sus.length ≤ 24) && susB none x.sus))))
end Go.Proofs.YtppapeoainafbaaGreatDoor

namespace Go.Proofs.YtppapeoainafbaaGreatDoor
open Go.RowKit

/-! ### bytes.Equal, cmd.counted, pid.May; a command in its box -/
def numsB (bs : List Nat) : List Int := bs.map fun b : Nat => Int.ofNat b
theorem bytesOf_inj : ∀ {xs ys : List Nat}, (∀ b ∈ xs, b < 256) → (∀ b ∈ ys, b < 256) → (Lib.bytesOf (numsB xs) = Lib.bytesOf (numsB ys) ↔ xs = ys)
  | [], [], _, _ => by simp
  | x :: xs, [], _, _ => by simp [Lib.bytesOf, numsB]
  | [], y :: ys, _, _ => by simp [Lib.bytesOf, numsB]
  | x :: xs, y :: ys, hx, hy => by
    have ih := bytesOf_inj (xs := xs) (ys := ys) (fun b hb => hx b (by simp [hb])) (fun b hb => hy b (by simp [hb]))
    have h1 := hx x (by simp)
    have h2 := hy y (by simp)
    have hu : UInt8.ofNat x = UInt8.ofNat y ↔ x = y := by
      constructor
      · intro h
        have := congrArg UInt8.toNat h
        simp at this
        omega
      · rintro rfl; rfl
    simp only [Lib.bytesOf, numsB, List.map_cons, List.cons.injEq, Int.toNat_natCast, Int.ofNat_eq_natCast] at ih ⊢
    rw [hu, ih]
theorem run_conv_byte {a : Option Addr} {c n : Nat} {xs : List Nat} {w : World} (hn : xs.length = n) (hx : ByteRow w a xs) :
    (convert 29 9 (.slice a n c)).run Tryz.prog w = .ok (.string (strOfNums (numsB xs))) w := by
  have hs : Tryz.prog.underlying 29 = some (.slice 5) := by kernel_rfl
  have he : Tryz.prog.underlying 5 = some (.int .u8) := by kernel_rfl
  have hd : Tryz.prog.underlying 9 = some .string := by kernel_rfl
  subst hn
  rcases hx with rfl | ⟨b, off, rfl, hlt, hc⟩
  · rw [show strOfNums (numsB []) = ByteArray.empty from rfl, List.length_nil]
    rw [run_convert_bytes_string w 29 9 5 _ 0 c hs he hd]
    cases a <;> simp [Conv.bytesToString, loadCells]
    all_goals rfl
  · exact run_convert_bytes_arg (P := Tryz.prog) w 29 5 hs he b off xs.length c (numsB xs) (by simp [numsB]) (fun i hi => by rw [hc i hi]; simp [numsB, List.getD, List.getElem?_eq_getElem hi]) 9 hd

set_option maxRecDepth 100000 in
set_option maxHeartbeats 800000 in
theorem bEqual_any {a b : Option Addr} {ca cb n m : Nat} {xs ys : List Nat} {w : World} (hn : Hid (xs.length = n)) (hm : Hid (ys.length = m)) (hbx : ∀ b ∈ xs, b < 256) (hby : ∀ b ∈ ys, b < 256) (hx : ByteRow w a xs) (hy : ByteRow w b ys) :
   Calls Tryz.prog 111 #[.slice a n ca, .slice b m cb] w fun e w' => e = .returned (.bool (decide (xs = ys))) ∧ w' = w := by
  have g1 := run_conv_byte (c := ca) hn.out hx
  have g2 := run_conv_byte (c := cb) hm.out hy
  have hr : ((strOfNums (numsB xs)).toList == (strOfNums (numsB ys)).toList) = decide (xs = ys) := by
    rw [Lib.strOfNums_toList, Lib.strOfNums_toList, Bool.eq_iff_iff]
    simp [bytesOf_inj hbx hby]
  have HR := hid hr
  clear hr hn hm hx hy hbx hby
  go_enter Tryz.func111, Tryz.ntmps111
  go_wp2
  go_ret
  exact ⟨ret_bool HR.out, rfl⟩
theorem bEqual_is {a b : Option Addr} {ca cb n m : Nat} {xs ys : List Nat} {w : World} {r : Bool} (h : Hid (decide (xs = ys) = r)) (hn : Hid (xs.length = n)) (hm : Hid (ys.length = m)) (hbx : ∀ b ∈ xs, b < 256) (hby : ∀ b ∈ ys, b < 256) (hx : ByteRow w a xs) (hy : ByteRow w b ys) :
   Calls Tryz.prog 111 #[.slice a n ca, .slice b m cb] w fun e w' => e = .returned (.bool r) ∧ w' = w := by
  have := bEqual_any (ca := ca) (cb := cb) (w := w) hn hm hbx hby hx hy
  rw [h.out] at this; exact this

set_option maxRecDepth 100000 in
set_option maxHeartbeats 800000 in
theorem counted_any (n : Nat) (w : World) : Calls Tryz.prog 112 #[.int .u64 n] w fun e w' => e = .returned (.bool (cntB n)) ∧ w' = w := by
  by_cases h1 : 1 ≤ n
  · have h1' : decide ((n : Int) ≥ 1) = true := by simp; omega
    have h1'' : decide ((1 : Int) ≤ n) = true := by simp; omega
    by_cases h2 : n ≤ 4611686018427387904
    · have h2' : decide ((n : Int) ≤ 4611686018427387904) = true := by simp; omega
      have HR : Hid (cntB n = true) := by unfold cntB Hid; simp [h1, h2]
      clear h1 h2
      go_enter Tryz.func112, Tryz.ntmps112
      go_wp2
      go_ret
      exact ⟨ret_bool HR.out.symm, rfl⟩
    · have h2' : decide ((n : Int) ≤ 4611686018427387904) = false := by simp; omega
      have HR : Hid (cntB n = false) := by unfold cntB Hid; simp [h1, h2]
      clear h1 h2
      go_enter Tryz.func112, Tryz.ntmps112
      go_wp2
      go_ret
      exact ⟨ret_bool HR.out.symm, rfl⟩
  · have h1' : decide ((n : Int) ≥ 1) = false := by simp; omega
    have h1'' : decide ((1 : Int) ≤ n) = false := by simp; omega
    have HR : Hid (cntB n = false) := by unfold cntB Hid; simp [h1]
    clear h1
    go_enter Tryz.func112, Tryz.ntmps112
    go_wp2
    go_ret
    exact ⟨ret_bool HR.out.symm, rfl⟩

set_option maxRecDepth 100000 in
set_option maxHeartbeats 800000 in
theorem mayP_any (x y : Int) (hy : 0 ≤ y) (w : World) : Calls Tryz.prog 76 #[.agg #[.int .u16 x, .int .u32 y]] w fun e w' => e = .returned (.bool (mayP (x, y))) ∧ Below w.heap.size w w' := by
  by_cases h1 : x < 16
  · have h1' : decide (x < 16) = true := by simpa using h1
    by_cases h2 : y = 0
    · have h2' : (y != 0) = false := by simp [h2]
      have HR : Hid (mayP (x, y) = false) := by unfold mayP Hid; simp [h1, h2]
      clear h1 h2 hy
      go_enter Tryz.func76, Tryz.ntmps76
      go_wp2
      go_ret
      exact ⟨ret_bool HR.out.symm, (Below.refl _ _).alloc (Nat.le_refl _) _⟩
    · have h2' : (y != 0) = true := by simp [h2]
      have HR : Hid (mayP (x, y) = true) := by unfold mayP Hid; simp [h1]; omega
      clear h1 h2 hy
      go_enter Tryz.func76, Tryz.ntmps76
      go_wp2
      go_ret
      exact ⟨ret_bool HR.out.symm, (Below.refl _ _).alloc (Nat.le_refl _) _⟩
  · have h1' : decide (x < 16) = false := by simpa using h1
    have HR : Hid (mayP (x, y) = false) := by unfold mayP Hid; simp [h1]
    clear h1 hy
    go_enter Tryz.func76, Tryz.ntmps76
    go_wp2
    go_ret
    exact ⟨ret_bool HR.out.symm, (Below.refl _ _).alloc (Nat.le_refl _) _⟩
end Go.Proofs.YtppapeoainafbaaGreatDoor


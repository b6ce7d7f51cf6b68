/- Parts of the proof: R3 R4 R5 P1 L1 L2 S1 X19. -/
import Derived.Test.YtbpfhclcjedkcaaR2
namespace Go.Proofs.Ytbpfhclcjedkcaa
open Go.RowKit

def greatB (V : View) : Bool := decide (40 < V.ms.length) || (decide (40 < V.ls.length) || (decide (40 < V.ds.length) || V.ls.any fun l => decide (40 < l.length)))
theorem any_drop {ls : List (List Pid)} {k : Nat} (h : k < ls.length) {l : List Pid} (hl : l = ls[k]) (f : List Pid → Bool) : (ls.drop k).any f = (f l || (ls.drop (k + 1)).any f) := by
  rw [List.drop_eq_getElem_cons h, List.any_cons, ← hl]

set_option maxRecDepth 100000 in
set_option maxHeartbeats 800000 in
theorem great_any (V : View) (am al ad : Option Addr) (cm cl cd : Nat) (w : World) (hV : ViewR w am al ad V) :
   Calls Try.prog 18 #[.agg #[.int .u64 V.id, .slice am V.ms.length cm, .slice al V.ls.length cl, .slice ad V.ds.length cd]] w fun e w' => e = .returned (.bool (greatB V)) ∧ Below w.heap.size w w' := by
  have hBx : Below w.heap.size w (w.alloc (.cells #[.int .u64 V.id, .slice am V.ms.length cm, .slice al V.ls.length cl, .slice ad V.ds.length cd] 33)) := (Below.refl _ _).alloc (Nat.le_refl _) _
  have hVx := hV.ext hBx
  have hbx : ViewBox _ _ V am al ad cm cl cd := ViewBox.made w
  have hll := hV.ll
  by_cases g1 : 40 < V.ms.length
  · have k1 : decide (40 < (V.ms.length : Int)) = true := by simp; omega
    go_enter Try.func18, Try.ntmps18
    go_wp2
    go_ret
    exact ⟨ret_bool (by unfold greatB; rw [decide_eq_true g1]; rfl), hBx⟩
  · have k1 : decide (40 < (V.ms.length : Int)) = false := by simp; omega
    by_cases g2 : 40 < V.ls.length
    · have k2 : decide (40 < (V.ls.length : Int)) = true := by simp; omega
      go_enter Try.func18, Try.ntmps18
      go_wp2
      go_ret
      exact ⟨ret_bool (by unfold greatB; rw [decide_eq_false (by omega), decide_eq_true g2]; rfl), hBx⟩
    · have k2 : decide (40 < (V.ls.length : Int)) = false := by simp; omega
      by_cases g3 : 40 < V.ds.length
      · have k3 : decide (40 < (V.ds.length : Int)) = true := by simp; omega
        go_enter Try.func18, Try.ntmps18
        go_wp2
        go_ret
        exact ⟨ret_bool (by unfold greatB; rw [decide_eq_false (by omega), decide_eq_false (by omega), decide_eq_true g3]; rfl), hBx⟩
      · have k3 : decide (40 < (V.ds.length : Int)) = false := by simp; omega
        have hsp0 : Hid (greatB V = V.ls.any fun l => decide (40 < l.length)) := by
          unfold greatB Hid
          rw [decide_eq_false g1, decide_eq_false g2, decide_eq_false g3]; rfl
        go_enter Try.func18, Try.ntmps18
        go_wp2
        go_loop [2, 3] (fun rs kv => rs = .bool false ∧ ∃ k : Nat, k ≤ V.ls.length ∧ kv = .int .i64 k ∧ Hid (greatB V = (V.ls.drop k).any fun l => decide (40 < l.length))) (fun _ kv => V.ls.length - (intOf kv).toNat)
        case atStart => exact ⟨rfl, 0, Nat.zero_le _, rfl, hsp0⟩
        case round =>
          obtain ⟨rfl, k, hk, rfl, hsp⟩ := hrel
          by_cases hkt : k < V.ls.length
          · obtain ⟨bl, ofl, ai, ci, l, hal, hxl, f1, f2⟩ := hVx.ls.at (Below.refl _ _) rfl hkt
            subst hal
            have hd := any_drop hkt hxl (fun l => decide (40 < l.length))
            have HD := hid hd
            clear hd hxl
            by_cases hl : 40 < l.length
            · go_wp2
              go_ret
              exact ⟨ret_bool (by rw [hsp.out, HD.out, decide_eq_true hl]; rfl), hBx⟩
            · go_wp2
              go_round
              case rel => exact ⟨rfl, k + 1, by omega, by go_num, hsp.out.trans (by rw [HD.out, decide_eq_false (by omega)]; rfl)⟩
              case measure => simp [intOf]; omega
          · go_wp2
            go_ret
            exact ⟨ret_bool (by rw [hsp.out, List.drop_eq_nil_of_le (by omega)]; rfl), hBx⟩

theorem great_is {V : View} {am al ad : Option Addr} {cm cl cd : Nat} {w : World} {bm : Bool} (h : Hid (greatB V = bm)) (hV : ViewR w am al ad V) :
   Calls Try.prog 18 #[.agg #[.int .u64 V.id, .slice am V.ms.length cm, .slice al V.ls.length cl, .slice ad V.ds.length cd]] w fun e w' => e = .returned (.bool bm) ∧ Below w.heap.size w w' := by
  have := great_any V am al ad cm cl cd w hV
  rw [h.out] at this
  exact this

/-! ### Quorum, Leaf, Rank -/
end Go.Proofs.Ytbpfhclcjedkcaa

namespace Go.Proofs.Ytbpfhclcjedkcaa
open Go.RowKit
theorem PidRow.two (w : World) (x1 y1 x2 y2 : Int) : PidRow (w.alloc (.cells #[.int .u16 x1, .int .u32 y1, .int .u16 x2, .int .u32 y2] 26)) (some ⟨w.heap.size, 0, none⟩) [(x1, y1), (x2, y2)] :=
  .inr ⟨_, 0, rfl, by simp, fun i hi => by
    match i, hi with
    | 0, _ => exact ⟨by simp, by simp⟩
    | 1, _ => exact ⟨by simp, by simp⟩⟩
theorem PidRow.three (w : World) (x1 y1 x2 y2 x3 y3 : Int) : PidRow (w.alloc (.cells #[.int .u16 x1, .int .u32 y1, .int .u16 x2, .int .u32 y2, .int .u16 x3, .int .u32 y3] 26)) (some ⟨w.heap.size, 0, none⟩) [(x1, y1), (x2, y2), (x3, y3)] :=
  .inr ⟨_, 0, rfl, by simp, fun i hi => by
    match i, hi with
    | 0, _ => exact ⟨by simp, by simp⟩
    | 1, _ => exact ⟨by simp, by simp⟩
    | 2, _ => exact ⟨by simp, by simp⟩⟩
theorem LeafRow.alloc {w : World} {a : Option Addr} {xs : List (List Pid)} (h : LeafRow w a xs) (o : Obj) : LeafRow (w.alloc o) a xs := h.ext ((Below.refl _ _).alloc (Nat.le_refl _) _)
theorem PidRow.alloc {w : World} {a : Option Addr} {xs : List Pid} (h : PidRow w a xs) (o : Obj) : PidRow (w.alloc o) a xs := h.ext ((Below.refl _ _).alloc (Nat.le_refl _) _)

end Go.Proofs.Ytbpfhclcjedkcaa

namespace Go.Proofs.Ytbpfhclcjedkcaa
open Go.RowKit

theorem rel {P : Program} {f : FuncId} {args : Array Value} {w0 W : World} {v v' : Value} (hb : Below w0.heap.size w0 W) (h : Calls P f args W fun e w' => e = .returned v ∧ Below W.heap.size W w') (hv : v = v') :
    Calls P f args W fun e w' => e = .returned v' ∧ Below w0.heap.size w0 w' := by
  subst hv
  exact h.mono fun _ _ ⟨h1, h2⟩ => ⟨h1, hb.trans (h2.mono hb.size)⟩

end Go.Proofs.Ytbpfhclcjedkcaa

namespace Go.Proofs.Ytbpfhclcjedkcaa

/-! ## the plain law: view.Check answers as the document says -/
def keys {α β : Type} (L : List (α × β)) : List α := L.map (·.1)
theorem look_isSome {α β : Type} [DecidableEq α] {x : α} : ∀ {L : List (α × β)}, (look x L).isSome = true ↔ x ∈ keys L
  | [] => by simp [look, keys]
  | p :: l => by
    have ih := look_isSome (x := x) (L := l)
    have e : look x (p :: l) = if x = p.1 then some p.2 else look x l := rfl
    have ek : keys (p :: l) = p.1 :: keys l := rfl
    rw [e, ek, List.mem_cons, ← ih]
    by_cases h : x = p.1 <;> simp [h]
theorem ins_len {α β : Type} [DecidableEq α] {x : α} {v : β} : ∀ {L : List (α × β)}, x ∉ keys L → ins x v L = L ++ [(x, v)]
  | [], _ => rfl
  | p :: l, h => by
    simp only [keys, List.map_cons, List.mem_cons, not_or] at h
    simp only [ins, if_neg h.1, List.cons_append]
    rw [ins_len h.2]
theorem look_ins {α β : Type} [DecidableEq α] {x y : α} {v : β} : ∀ {L : List (α × β)}, look x (ins y v L) = if x = y then some v else look x L
  | [] => by simp [ins, look]
  | p :: l => by
    have ih := look_ins (x := x) (y := y) (v := v) (L := l)
    simp only [ins]
    by_cases h : y = p.1
    · simp only [if_pos h, look]
      by_cases hx : x = y
      · simp [hx]
      · have : ¬ x = p.1 := fun e => hx (e.trans h.symm)
        simp [hx, this]
    · simp only [if_neg h, look, ih]
      by_cases hx : x = p.1
      · have : ¬ x = y := fun e => h (e.symm.trans hx)
        simp [hx]
        intro e; exact absurd (e.symm) (by intro e2; exact h (by rw [← e2]))
      · simp [hx]

theorem add1_of_mem {p : Pid} {L : List (Pid × Unit)} (h : p ∈ keys L) : add1 p L = L := by unfold add1; rw [if_pos (look_isSome.2 h)]
theorem add1_of_not {p : Pid} {L : List (Pid × Unit)} (h : p ∉ keys L) : add1 p L = L ++ [(p, ())] := by
  unfold add1; rw [if_neg (fun e => h (look_isSome.1 e)), ins_len h]
theorem unionL_len : ∀ (xs : List Pid) (L : List (Pid × Unit)), (unionL L xs).length ≤ L.length + xs.length ∧ ((unionL L xs).length = L.length + xs.length ↔ xs.Nodup ∧ ∀ x ∈ xs, x ∉ keys L)
  | [], L => by simp [unionL]
  | p :: l, L => by
    simp only [unionL]
    by_cases h : p ∈ keys L
    · obtain ⟨h1, h2⟩ := unionL_len l L
      rw [add1_of_mem h]
      refine ⟨by simp only [List.length_cons]; omega, ?_⟩
      constructor
      · intro e; simp only [List.length_cons] at e; omega
      · rintro ⟨_, h3⟩; exact absurd h (h3 p (List.mem_cons_self ..))
    · obtain ⟨h1, h2⟩ := unionL_len l (L ++ [(p, ())])
      rw [add1_of_not h]
      simp only [List.length_append, List.length_cons, List.length_nil] at h1 h2 ⊢
      refine ⟨by omega, ?_⟩
      have e : (unionL (L ++ [(p, ())]) l).length = L.length + (l.length + 1) ↔ (unionL (L ++ [(p, ())]) l).length = L.length + (0 + 1) + l.length := by omega
      rw [e, h2, List.nodup_cons]
      have hk : keys (L ++ [(p, ())]) = keys L ++ [p] := by simp [keys]
      rw [hk]
      simp only [List.mem_append, List.mem_cons, List.not_mem_nil, or_false, not_or]
      constructor
      · rintro ⟨a, b⟩
        exact ⟨⟨fun hp => (b p hp).2 rfl, a⟩, fun x hx => by
          rcases hx with rfl | hx
          · exact h
          · exact (b x hx).1⟩
      · rintro ⟨⟨a, b⟩, c⟩
        exact ⟨b, fun x hx => ⟨c x (.inr hx), fun e => a (e ▸ hx)⟩⟩
theorem unionL_nodup {xs : List Pid} : (unionL [] xs).length = xs.length ↔ xs.Nodup := by
  have := (unionL_len xs []).2
  simpa [keys] using this

theorem memFrom_iff {n : Nat} : ∀ {xs : List Pid} {S : List (Int × Unit)}, memFrom n S xs = true ↔ (0 < n ∧ n ≤ 24) ∧ (∀ p ∈ xs, mayB p = true) ∧ xs.Pairwise (fun p q => p.1 ≠ q.1) ∧ ∀ p ∈ xs, p.1 ∉ keys S
  | [], S => by simp [memFrom]
  | p :: l, S => by
    simp only [memFrom]
    by_cases h : p.1 ∈ keys S
    · rw [if_pos (look_isSome.2 h)]
      simp only [Bool.false_eq_true, false_iff]
      rintro ⟨_, _, _, h4⟩
      exact h4 p (List.mem_cons_self ..) h
    · rw [if_neg (fun e => h (look_isSome.1 e))]
      by_cases hm : mayB p = true
      · rw [if_pos hm, memFrom_iff, ins_len h]
        have hk : keys (S ++ [(p.1, ())]) = keys S ++ [p.1] := by simp [keys]
        rw [hk]
        simp only [List.mem_append, List.mem_cons, List.not_mem_nil, or_false, not_or, List.pairwise_cons, forall_eq_or_imp]
        constructor
        · rintro ⟨a, b, c, d⟩
          exact ⟨a, ⟨hm, b⟩, ⟨fun q hq e => (d q hq).2 e.symm, c⟩, h, fun q hq => (d q hq).1⟩
        · rintro ⟨a, ⟨_, b⟩, ⟨c, d⟩, _, e⟩
          exact ⟨a, b, d, fun q hq => ⟨e q hq, fun e2 => c q hq e2.symm⟩⟩
      · rw [if_neg hm]
        simp only [Bool.false_eq_true, false_iff]
        rintro ⟨_, b, _⟩
        exact hm (b p (List.mem_cons_self ..))

theorem refA_iff {K : Bool} : ∀ {xs pre : List Pid}, refA K (pre ++ xs) pre.length xs = true ↔ K = true ∧ (∀ p ∈ xs, mayR p = true) ∧ (∀ p ∈ xs, ∀ q ∈ pre, q.1 ≠ p.1) ∧ xs.Pairwise (fun p q => p.1 ≠ q.1)
  | [], pre => by simp [refA]
  | p :: l, pre => by
    simp only [refA, List.take_left']
    by_cases hm : mayR p = true
    · rw [if_pos hm]
      by_cases ha : pre.any (sameId p) = true
      · rw [if_pos ha]
        simp only [Bool.false_eq_true, false_iff]
        rintro ⟨_, _, c, _⟩
        obtain ⟨q, hq, e⟩ := List.any_eq_true.1 ha
        exact c p (List.mem_cons_self ..) q hq (by simpa [sameId] using e)
      · rw [if_neg ha]
        have ih := refA_iff (K := K) (xs := l) (pre := pre ++ [p])
        simp only [List.append_assoc, List.cons_append, List.nil_append, List.length_append, List.length_cons, List.length_nil, Nat.zero_add] at ih
        rw [ih]
        have hpre : ∀ q ∈ pre, q.1 ≠ p.1 := fun q hq e => ha (List.any_eq_true.2 ⟨q, hq, by simpa [sameId] using e⟩)
        simp only [List.mem_append, List.mem_cons, List.not_mem_nil, or_false, forall_eq_or_imp, List.pairwise_cons]
        constructor
        · rintro ⟨a, b, c, d⟩
          exact ⟨a, ⟨hm, b⟩, ⟨hpre, fun r hr q hq => c r hr q (.inl hq)⟩, fun r hr => c r hr p (.inr rfl), d⟩
        · rintro ⟨a, ⟨_, b⟩, ⟨_, c⟩, d, e⟩
          exact ⟨a, b, fun r hr q hq => by
            rcases hq with hq | rfl
            · exact c r hr q hq
            · exact d r hr, e⟩
    · rw [if_neg hm]
      simp only [Bool.false_eq_true, false_iff]
      rintro ⟨_, b, _⟩
      exact hm (b p (List.mem_cons_self ..))
theorem refB_iff {K : Bool} {fl : List Pid} : ∀ {xs : List Pid}, refB K fl xs = true ↔ K = true ∧ ∀ p ∈ xs, fl.count p = 1
  | [] => by simp [refB]
  | p :: l => by
    simp only [refB]
    by_cases h : fl.count p = 1
    · rw [if_pos h, refB_iff]; simp [h]
    · rw [if_neg h]; simp [h]

/-- the heads of the leaves -/
def heads : List (List Pid) → List Pid
  | [] => []
  | l :: r => l.head?.toList ++ heads r
theorem chkFrom_iff {S : List (Pid × Int)} {K : List Pid → Nat → Bool} : ∀ {ls : List (List Pid)} {F : List Pid} {n : Nat}, chkFrom S K F n ls = true ↔ (∀ l ∈ ls, l ≠ [] ∧ risFrom S (-1) l = true) ∧ K (F ++ heads ls) (n + lens ls) = true
  | [], F, n => by simp [chkFrom, heads, lens]
  | l :: r, F, n => by
    cases l with
    | nil => simp [chkFrom]
    | cons p l =>
      simp only [chkFrom]
      by_cases h : risFrom S (-1) (p :: l) = true
      · rw [if_pos h, chkFrom_iff]
        have e1 : F ++ [p] ++ heads r = F ++ heads ((p :: l) :: r) := by simp [heads]
        have e2 : n + (p :: l).length + lens r = n + lens ((p :: l) :: r) := by simp [lens]; omega
        rw [e1, e2]
        simp [h]
      · rw [if_neg h]; simp [h]
theorem refC_iff {ms : List Pid} {K : List Pid → Bool} : ∀ {ls : List (List Pid)} {F : List Pid}, refC ms K F ls = true ↔ (∀ l ∈ ls, l ≠ [] ∧ risR ms l = true) ∧ K (F ++ heads ls) = true
  | [], F => by simp [refC, heads]
  | l :: r, F => by
    cases l with
    | nil => simp [refC]
    | cons p l =>
      simp only [refC]
      by_cases h : risR ms (p :: l) = true
      · rw [if_pos h, refC_iff]
        have e1 : F ++ [p] ++ heads r = F ++ heads ((p :: l) :: r) := by simp [heads]
        rw [e1]
        simp [h]
      · rw [if_neg h]; simp [h]

/-- the rank of p, if it is a member -/
def rankO (ms : List Pid) (p : Pid) : Option Int := if atIx ms p < 0 then none else some (atIx ms p)
theorem look_ranks {p : Pid} : ∀ {xs : List Pid} {S : List (Pid × Int)} {k : Nat}, look p (ranksFrom S xs k) = match look p S with | some v => some v | none => if atFrom p xs k < 0 then none else some (atFrom p xs k)
  | [], S, k => by
    simp only [ranksFrom, atFrom]
    cases look p S <;> simp
  | q :: l, S, k => by
    simp only [ranksFrom, atFrom]
    by_cases h : (look q S).isSome = true
    · rw [if_pos h, look_ranks]
      cases hp : look p S with
      | some v => rfl
      | none =>
        have : ¬ q = p := fun e => by subst e; rw [hp] at h; simp at h
        simp only [if_neg this]
    · rw [if_neg h, look_ranks, look_ins]
      by_cases hpq : p = q
      · subst hpq
        have : look p S = none := by simpa using h
        simp only [if_true, this]
        rw [if_neg (by omega)]
      · have : ¬ q = p := fun e => hpq e.symm
        simp only [if_neg hpq, if_neg this]
theorem look_ranksL {ms : List Pid} {p : Pid} : look p (ranksL ms) = rankO ms p := by
  unfold ranksL rankO atIx
  rw [look_ranks]
  rfl
theorem ris_eq (ms : List Pid) : ∀ (xs : List Pid) (pr : Option Pid) (last : Int), (∀ A, 0 ≤ A → prevGe ms pr A = decide (A ≤ last)) → risFrom (ranksL ms) last xs = risRFrom ms pr xs
  | [], _, _, _ => rfl
  | p :: l, pr, last, h => by
    simp only [risFrom, risRFrom, look_ranksL, rankO]
    by_cases hn : atIx ms p < 0
    · rw [if_pos hn, if_pos hn]
    · rw [if_neg hn, if_neg hn, h _ (by omega)]
      simp only [decide_eq_true_eq]
      by_cases hle : atIx ms p ≤ last
      · rw [if_pos hle, if_pos hle]
      · rw [if_neg hle, if_neg hle]
        exact ris_eq ms l (some p) (atIx ms p) (fun A _ => rfl)
theorem ris_same (ms xs : List Pid) : risFrom (ranksL ms) (-1) xs = risR ms xs :=
  ris_eq ms xs none (-1) fun A hA => by
    have : ¬ A ≤ -1 := by omega
    simp [prevGe, this]

/-! ### lists without repeats -/
theorem nodup_of_ids {ms : List Pid} (h : ms.Pairwise (fun p q => p.1 ≠ q.1)) : ms.Nodup := h.imp fun hne e => hne (by rw [e])
theorem nodup_len {l : List Pid} : ∀ {m : List Pid}, l.Nodup → (∀ x ∈ l, x ∈ m) → l.length ≤ m.length := by
  induction l with
  | nil => intro m _ _; simp
  | cons p l ih =>
    intro m hn hs
    rw [List.nodup_cons] at hn
    have hp := hs p (List.mem_cons_self ..)
    have h := ih (m := m.erase p) hn.2 (fun x hx => by
      have hne : x ≠ p := fun e => hn.1 (e ▸ hx)
      exact (List.mem_erase_of_ne hne).2 (hs x (List.mem_cons_of_mem _ hx)))
    rw [List.length_erase_of_mem hp] at h
    have := List.length_pos_of_mem hp
    simp only [List.length_cons]
    omega
theorem count_sum {l : List Pid} : ∀ {m : List Pid}, m.Nodup → (∀ x ∈ l, x ∈ m) → l.length = (m.map fun p => l.count p).sum := by
  induction l with
  | nil =>
    intro m _ _
    have : ∀ m : List Pid, (m.map fun p => ([] : List Pid).count p).sum = 0 := by
      intro m; induction m with
      | nil => rfl
      | cons a m ih => simp only [List.map_cons, List.sum_cons, ih]; simp
    rw [this]; rfl
  | cons q l ih =>
    intro m hm hs
    have h := ih hm (fun x hx => hs x (List.mem_cons_of_mem _ hx))
    have hq := hs q (List.mem_cons_self ..)
    have key : ∀ m : List Pid, m.Nodup → (m.map fun p => (q :: l).count p).sum = (m.map fun p => l.count p).sum + (if q ∈ m then 1 else 0) := by
      intro m
      induction m with
      | nil => intro _; simp
      | cons a m ihm =>
        intro hn
        rw [List.nodup_cons] at hn
        rw [List.map_cons, List.sum_cons, ihm hn.2, List.map_cons, List.sum_cons, List.count_cons]
        by_cases hqa : q = a
        · subst hqa
          simp only [beq_self_eq_true, if_true, if_neg hn.1, List.mem_cons, true_or]
          omega
        · have hb : (q == a) = false := by simpa using hqa
          simp only [hb, List.mem_cons, hqa, false_or, Bool.false_eq_true, if_false]
          omega
    rw [key m hm, if_pos hq, List.length_cons, h]
theorem sum_one : ∀ {m : List Pid} {f : Pid → Nat}, (∀ p ∈ m, f p = 1) → (m.map f).sum = m.length
  | [], _, _ => rfl
  | a :: m, f, h => by
    simp only [List.map_cons, List.sum_cons, List.length_cons, sum_one (fun p hp => h p (List.mem_cons_of_mem _ hp)), h a (List.mem_cons_self ..)]
    omega
/-- each member is met once, just if the lists have no repeat and as many elements as there are members -/
theorem count_iff {ms fl : List Pid} (hm : ms.Nodup) (hs : ∀ x ∈ fl, x ∈ ms) : (∀ p ∈ ms, fl.count p = 1) ↔ fl.length = ms.length ∧ fl.Nodup := by
  constructor
  · intro h
    refine ⟨by rw [count_sum hm hs, sum_one h], ?_⟩
    rw [List.nodup_iff_count]
    intro a
    by_cases ha : a ∈ fl
    · rw [h a (hs a ha)]; exact Nat.le_refl _
    · rw [List.count_eq_zero.2 ha]; omega
  · rintro ⟨hl, hn⟩ p hp
    have h1 := List.nodup_iff_count.1 hn p
    by_cases h0 : fl.count p = 0
    · exfalso
      have hnot : p ∉ fl := List.count_eq_zero.1 h0
      have := nodup_len (l := p :: fl) (m := ms) (List.nodup_cons.2 ⟨hnot, hn⟩) (fun x hx => by
        rcases List.mem_cons.1 hx with rfl | hx
        · exact hp
        · exact hs x hx)
      simp only [List.length_cons] at this
      omega
    · omega

theorem risR_mem {ms : List Pid} : ∀ {xs : List Pid} {pr : Option Pid}, risRFrom ms pr xs = true → ∀ x ∈ xs, x ∈ ms
  | p :: l, pr, h, x, hx => by
    unfold risRFrom at h
    split at h
    · simp at h
    · next hn =>
      split at h
      · simp at h
      · rcases List.mem_cons.1 hx with rfl | hx
        · unfold atIx at hn
          rw [atFrom_neg] at hn
          simpa using hn
        · exact risR_mem h x hx
theorem risR_gt {ms : List Pid} : ∀ {xs : List Pid} {q : Pid}, risRFrom ms (some q) xs = true → ∀ x ∈ xs, atIx ms q < atIx ms x
  | p :: l, q, h, x, hx => by
    unfold risRFrom at h
    split at h
    · simp at h
    · split at h
      · simp at h
      · next hn hp =>
        simp only [prevGe, decide_eq_true_eq, Int.not_le] at hp
        rcases List.mem_cons.1 hx with rfl | hx
        · exact hp
        · have := risR_gt h x hx; omega
theorem risR_nodup {ms : List Pid} : ∀ {xs : List Pid} {pr : Option Pid}, risRFrom ms pr xs = true → xs.Nodup
  | [], _, _ => List.nodup_nil
  | p :: l, pr, h => by
    unfold risRFrom at h
    split at h
    · simp at h
    · split at h
      · simp at h
      · refine List.nodup_cons.2 ⟨fun hp => ?_, risR_nodup h⟩
        have := risR_gt h p hp
        omega
theorem lens_ge : ∀ {ls : List (List Pid)}, (∀ l ∈ ls, l ≠ []) → ls.length ≤ lens ls
  | [], _ => by simp [lens]
  | l :: r, h => by
    have := lens_ge (ls := r) (fun x hx => h x (List.mem_cons_of_mem _ hx))
    have h0 := List.length_pos_iff.2 (h l (List.mem_cons_self ..))
    simp only [lens, List.map_cons, List.sum_cons, List.length_cons] at *
    omega
def WfPids (l : List Pid) : Prop := ∀ p ∈ l, 0 ≤ p.1 ∧ p.1 < 65536 ∧ 0 ≤ p.2 ∧ p.2 < 4294967296
theorem may_eq {p : Pid} (h : 0 ≤ p.2) : mayB p = mayR p := by
  unfold mayB mayR
  by_cases h0 : p.2 = 0
  · have : ¬ (0 < p.2) := by omega
    simp [h0]
  · have : 0 < p.2 := by omega
    simp [h0, this]

/-- view.Check is the document's -/
theorem check_eq (V : View) (hw : WfPids V.ms) : checkB V = refCheckB V := by
  rw [Bool.eq_iff_iff]
  have e1 : checkB V = true ↔ (1 ≤ V.id ∧ V.id ≤ 4611686018427387904) ∧ membersB V.ms = true ∧ (∀ l ∈ V.ls, l ≠ [] ∧ risR V.ms l = true) ∧ lens V.ls = V.ms.length ∧ V.ls.flatten.Nodup ∧ risR V.ms (heads V.ls) = true ∧ V.ds ≠ [] ∧ risR V.ms V.ds = true := by
    unfold checkB
    simp only [Bool.and_eq_true, decide_eq_true_eq, chkFrom_iff, chkEnd, ris_same, List.nil_append, Nat.zero_add]
    have hl := lens_flatten V.ls
    constructor
    · rintro ⟨a, b, c, d, e, f, g, h, i⟩
      exact ⟨⟨a, b⟩, c, d, e, unionL_nodup.1 (by omega), g, h, i⟩
    · rintro ⟨⟨a, b⟩, c, d, e, f, g, h, i⟩
      exact ⟨a, b, c, d, e, by rw [unionL_nodup.2 f, hl], g, h, i⟩
  have e2 : refCheckB V = true ↔ refG V = true ∧ ((refCB V = true ∧ ∀ p ∈ V.ms, V.ls.flatten.count p = 1) ∧ (∀ p ∈ V.ms, mayR p = true) ∧ V.ms.Pairwise (fun p q => p.1 ≠ q.1)) := by
    unfold refCheckB
    rw [Bool.and_eq_true]
    have := refA_iff (K := refB (refCB V) V.ls.flatten V.ms) (xs := V.ms) (pre := [])
    simp only [List.nil_append, List.length_nil, List.not_mem_nil, false_implies, implies_true, true_and] at this
    rw [this, refB_iff]
  have e3 : refCB V = true ↔ (∀ l ∈ V.ls, l ≠ [] ∧ risR V.ms l = true) ∧ risR V.ms (heads V.ls) = true ∧ risR V.ms V.ds = true := by
    unfold refCB
    rw [refC_iff]
    simp only [List.nil_append, Bool.and_eq_true]
  have e4 : membersB V.ms = true ↔ (0 < V.ms.length ∧ V.ms.length ≤ 24) ∧ (∀ p ∈ V.ms, mayR p = true) ∧ V.ms.Pairwise (fun p q => p.1 ≠ q.1) := by
    unfold membersB
    rw [memFrom_iff]
    simp only [keys, List.map_nil, List.not_mem_nil, not_false_eq_true, implies_true, and_true]
    constructor
    · rintro ⟨a, b, c⟩; exact ⟨a, fun p hp => by rw [← may_eq (hw p hp).2.2.1]; exact b p hp, c⟩
    · rintro ⟨a, b, c⟩; exact ⟨a, fun p hp => by rw [may_eq (hw p hp).2.2.1]; exact b p hp, c⟩
  rw [e1, e2, e3, e4]
  unfold refG
  simp only [Bool.and_eq_true, decide_eq_true_eq]
  have hl := lens_flatten V.ls
  constructor
  · rintro ⟨⟨a, b⟩, ⟨⟨c1, c2⟩, c3, c4⟩, d, e, f, g, h, i⟩
    have hmem : ∀ x ∈ V.ls.flatten, x ∈ V.ms := fun x hx => by
      obtain ⟨l, hl, hxl⟩ := List.mem_flatten.1 hx
      exact risR_mem (d l hl).2 x hxl
    have hls := lens_ge (fun l hl => (d l hl).1)
    have hds := List.length_pos_iff.2 h
    have hdl := nodup_len (risR_nodup i) (risR_mem i)
    exact ⟨⟨a, b, by omega, c2, by omega, by omega, hdl⟩, ⟨⟨d, g, i⟩, (count_iff (nodup_of_ids c4) hmem).2 ⟨by omega, f⟩⟩, c3, c4⟩
  · rintro ⟨⟨a, b, c1, c2, c3, c4, c5⟩, ⟨⟨d, g, i⟩, j⟩, k, l⟩
    have hmem : ∀ x ∈ V.ls.flatten, x ∈ V.ms := fun x hx => by
      obtain ⟨l, hl, hxl⟩ := List.mem_flatten.1 hx
      exact risR_mem (d l hl).2 x hxl
    obtain ⟨h1, h2⟩ := (count_iff (nodup_of_ids l) hmem).1 j
    exact ⟨⟨a, b⟩, ⟨⟨by omega, c2⟩, k, l⟩, d, by omega, h2, g, fun e => by rw [e] at c4; simp at c4, i⟩
end Go.Proofs.Ytbpfhclcjedkcaa

namespace Go.Proofs.Ytbpfhclcjedkcaa
open Go.RowKit

theorem lens_le {ls : List (List Pid)} {n : Nat} (h : ∀ l ∈ ls, l.length ≤ n) : lens ls ≤ ls.length * n := by
  induction ls with
  | nil => simp [lens]
  | cons l r ih =>
    have := ih (fun x hx => h x (List.mem_cons_of_mem _ hx))
    have h0 := h l (List.mem_cons_self ..)
    simp only [lens, List.map_cons, List.sum_cons, List.length_cons] at *
    rw [Nat.add_mul]
    omega
theorem refCheck_is {V : View} {am al ad : Option Addr} {cm cl cd : Nat} {w : World} {bm : Bool} (h : Hid (refCheckB V = bm)) (hV : ViewR w am al ad V) (hsum : lens V.ls ≤ 549755813888) :
   Calls Try.prog 74 #[.agg #[.int .u64 V.id, .slice am V.ms.length cm, .slice al V.ls.length cl, .slice ad V.ds.length cd]] w fun e w' => e = .returned (.bool bm) ∧ Below w.heap.size w w' := by
  have := refCheck_any V am al ad cm cl cd w hV hsum
  rw [h.out] at this
  exact this

end Go.Proofs.Ytbpfhclcjedkcaa

namespace Go.Proofs.Ytbpfhclcjedkcaa
open Go.RowKit

theorem quiet_of {P : Program} {f : FuncId} {args : Array Value} {w0 : World} {U : ExtW w0} {v v' : Value} (h : Calls P f args U.W fun e w' => e = .returned v ∧ Below U.W.heap.size U.W w') (hv : v = v') :
    Calls P f args U.W fun e w' => e = .returned v' ∧ ∃ U' : ExtW w0, w' = U'.W := by
  subst hv
  exact h.mono fun _ _ ⟨h1, h2⟩ => ⟨h1, ⟨_, U.h.trans (h2.mono U.h.size)⟩, rfl⟩

section
variable (V : View) (am al ad : Option Addr) (cm cl cd : Nat) (x y : Int) (w : World)
end
/-! ### two quorums meet -/
end Go.Proofs.Ytbpfhclcjedkcaa

namespace Go.Proofs.Ytbpfhclcjedkcaa
open Go.RowKit

/-! ### slices.Equal, EqualFunc, the references' Same: lists are the same -/
def eqFrom : List Pid → List Pid → Bool
  | [], _ => true
  | _ :: _, [] => true
  | x :: l, y :: r => if x = y then eqFrom l r else false
theorem eqFrom_drop {xs ys : List Pid} {k : Nat} (h : k < xs.length) (h' : k < ys.length) {p q : Pid} (hp : p = xs[k]) (hq : q = ys[k]) : eqFrom (xs.drop k) (ys.drop k) = if p = q then eqFrom (xs.drop (k + 1)) (ys.drop (k + 1)) else false := by
  rw [List.drop_eq_getElem_cons h, List.drop_eq_getElem_cons h', ← hp, ← hq]; rfl
theorem eqFrom_iff : ∀ {xs ys : List Pid}, xs.length = ys.length → (eqFrom xs ys = true ↔ xs = ys)
  | [], [], _ => by simp [eqFrom]
  | x :: l, y :: r, h => by
    have ih := eqFrom_iff (xs := l) (ys := r) (by simpa using h)
    simp only [eqFrom]
    by_cases hxy : x = y
    · rw [if_pos hxy, ih]; simp [hxy]
    · rw [if_neg hxy]; simp [hxy]
  | [], y :: r, h => by simp at h
  | x :: l, [], h => by simp at h
theorem eqFrom_eq {xs ys : List Pid} (h : xs.length = ys.length) : decide (xs = ys) = eqFrom xs ys := by
  rw [Bool.eq_iff_iff, eqFrom_iff h]; simp

set_option maxRecDepth 100000 in
set_option maxHeartbeats 800000 in
theorem sameR_any (a b : Option Addr) (ca cb : Nat) (xs ys : List Pid) (w : World) (hn : xs.length ≤ 70368744177664) (_hm : ys.length ≤ 70368744177664) (hx : PidRow w a xs) (hy : PidRow w b ys) :
   Calls Try.prog 66 #[.slice a xs.length ca, .slice b ys.length cb] w fun e w' => e = .returned (.bool (decide (xs = ys))) ∧ Below w.heap.size w w' := by
  by_cases hl : xs.length = ys.length
  · have hsp := eqFrom_eq hl
    have hl' : ((xs.length : Int) != (ys.length : Int)) = false := by rw [hl]; simp
    have HL := hid hl
    have HSP := hid hsp
    clear hl hsp
    go_enter Try.func66, Try.ntmps66
    go_wp2
    go_loopw [4, 5] (fun rs kv wr => rs = .bool false ∧ ∃ k : Nat, k ≤ xs.length ∧ kv = .int .i64 k ∧ Hid (decide (xs = ys) = eqFrom (xs.drop k) (ys.drop k)) ∧ Below w.heap.size w wr) (fun _ kv _ => xs.length - (intOf kv).toNat)
    case atStart => exact ⟨rfl, 0, Nat.zero_le _, rfl, HSP, Below.refl _ _⟩
    case round =>
      obtain ⟨rfl, k, hk, rfl, ha, hb⟩ := hrel
      by_cases hkt : k < xs.length
      · have hkt' : k < ys.length := by have := HL.out; omega
        obtain ⟨b1, o1, x1, y1, rfl, hx1, q0, q1⟩ := hx.at hb rfl hkt
        obtain ⟨b2, o2, x2, y2, rfl, hx2, q2, q3⟩ := hy.at hb rfl hkt'
        have hd := eqFrom_drop hkt hkt' hx1 hx2
        have HD := hid hd
        clear hd hx1 hx2
        have he := fun w => neq_pid x1 y1 x2 y2 w
        by_cases hxy : (x1, y1) = (x2, y2)
        · have hxy1 : decide ((x1, y1) = (x2, y2)) = true := by simpa using hxy
          rw [hxy1] at he
          have HXY := hid hxy
          clear hxy hxy1
          go_wp2
          go_quiet (fail)
          go_wp2
          go_roundw
          case rel => exact ⟨rfl, k + 1, by omega, by go_num, (ha.out.trans (by rw [HD.out, if_pos HXY.out]) : _), below_drewN hb _⟩
          case measure => simp [intOf]; omega
        · have hxy1 : decide ((x1, y1) = (x2, y2)) = false := by simpa using hxy
          rw [hxy1] at he
          have HXY : Hid (¬ (x1, y1) = (x2, y2)) := hxy
          clear hxy hxy1
          go_wp2
          go_quiet (fail)
          go_wp2
          go_ret
          exact ⟨ret_bool (by rw [ha.out, HD.out, if_neg HXY.out]), below_drewN hb _⟩
      · go_wp2
        go_ret
        exact ⟨ret_bool (by rw [ha.out, List.drop_eq_nil_of_le (by omega)]; rfl), hb⟩
  · have hne : decide (xs = ys) = false := by simp; intro e; exact hl (by rw [e])
    have hl' : ((xs.length : Int) != (ys.length : Int)) = true := by rw [bne_iff_ne]; omega
    have HN := hid hne
    clear hne hl
    go_enter Try.func66, Try.ntmps66
    go_wp2
    go_ret
    exact ⟨ret_bool HN.out.symm, Below.refl _ _⟩

section
variable {a b : Option Addr} {ca cb : Nat} {xs ys : List Pid} {w : World} {bm : Bool} (h : Hid (decide (xs = ys) = bm)) (hn : xs.length ≤ 70368744177664) (hm : ys.length ≤ 70368744177664) (hx : PidRow w a xs) (hy : PidRow w b ys)
include h hn hm hx hy
theorem sameR_is : Calls Try.prog 66 #[.slice a xs.length ca, .slice b ys.length cb] w fun e w' => e = .returned (.bool bm) ∧ Below w.heap.size w w' := by
  have := sameR_any a b ca cb xs ys w hn hm hx hy
  rw [h.out] at this
  exact this
theorem sameR_ext {U : ExtW w} : Calls Try.prog 66 #[.slice a xs.length ca, .slice b ys.length cb] U.W fun e w' => e = .returned (.bool bm) ∧ ∃ U' : ExtW w, w' = U'.W :=
  quiet_of (sameR_any a b ca cb xs ys U.W hn hm (hx.ext U.h) (hy.ext U.h)) (by rw [h.out])
end

/-! lists of lists -/
def eqLFrom : List (List Pid) → List (List Pid) → Bool
  | [], _ => true
  | _ :: _, [] => true
  | x :: l, y :: r => if x = y then eqLFrom l r else false
theorem eqLFrom_drop {xs ys : List (List Pid)} {k : Nat} (h : k < xs.length) (h' : k < ys.length) {p q : List Pid} (hp : p = xs[k]) (hq : q = ys[k]) : eqLFrom (xs.drop k) (ys.drop k) = if p = q then eqLFrom (xs.drop (k + 1)) (ys.drop (k + 1)) else false := by
  rw [List.drop_eq_getElem_cons h, List.drop_eq_getElem_cons h', ← hp, ← hq]; rfl
theorem eqLFrom_iff : ∀ {xs ys : List (List Pid)}, xs.length = ys.length → (eqLFrom xs ys = true ↔ xs = ys)
  | [], [], _ => by simp [eqLFrom]
  | x :: l, y :: r, h => by
    have ih := eqLFrom_iff (xs := l) (ys := r) (by simpa using h)
    simp only [eqLFrom]
    by_cases hxy : x = y
    · rw [if_pos hxy, ih]; simp [hxy]
    · rw [if_neg hxy]; simp [hxy]
  | [], y :: r, h => by simp at h
  | x :: l, [], h => by simp at h
theorem eqLFrom_eq {xs ys : List (List Pid)} (h : xs.length = ys.length) : decide (xs = ys) = eqLFrom xs ys := by
  rw [Bool.eq_iff_iff, eqLFrom_iff h]; simp

end Go.Proofs.Ytbpfhclcjedkcaa

namespace Go.Proofs.Ytbpfhclcjedkcaa
open Go.RowKit

/-! slices.Equal, slices.EqualFunc -/
set_option maxRecDepth 100000 in
set_option maxHeartbeats 800000 in
theorem equal_any (a b : Option Addr) (ca cb : Nat) (xs ys : List Pid) (w : World) (hn : xs.length ≤ 70368744177664) (_hm : ys.length ≤ 70368744177664) (hx : PidRow w a xs) (hy : PidRow w b ys) :
   Calls Try.prog 88 #[.slice a xs.length ca, .slice b ys.length cb] w fun e w' => e = .returned (.bool (decide (xs = ys))) ∧ Below w.heap.size w w' := by
  by_cases hl : xs.length = ys.length
  · have hsp := eqFrom_eq hl
    have hl' : ((xs.length : Int) != (ys.length : Int)) = false := by rw [hl]; simp
    have HL := hid hl
    have HSP := hid hsp
    clear hl hsp
    go_enter Try.func88, Try.ntmps88
    go_wp2
    go_loopw [4, 13] (fun rs kv wr => rs = .bool false ∧ ∃ k : Nat, k ≤ xs.length ∧ kv = .int .i64 k ∧ Hid (decide (xs = ys) = eqFrom (xs.drop k) (ys.drop k)) ∧ Below w.heap.size w wr) (fun _ kv _ => xs.length - (intOf kv).toNat)
    case atStart => exact ⟨rfl, 0, Nat.zero_le _, rfl, HSP, Below.refl _ _⟩
    case round =>
      obtain ⟨rfl, k, hk, rfl, ha, hb⟩ := hrel
      by_cases hkt : k < xs.length
      · have hkt' : k < ys.length := by have := HL.out; omega
        obtain ⟨b1, o1, x1, y1, rfl, hx1, q0, q1⟩ := hx.at hb rfl hkt
        obtain ⟨b2, o2, x2, y2, rfl, hx2, q2, q3⟩ := hy.at hb rfl hkt'
        have hd := eqFrom_drop hkt hkt' hx1 hx2
        have HD := hid hd
        clear hd hx1 hx2
        have he := fun w => neq_pid x1 y1 x2 y2 w
        by_cases hxy : (x1, y1) = (x2, y2)
        · have hxy1 : decide ((x1, y1) = (x2, y2)) = true := by simpa using hxy
          rw [hxy1] at he
          have HXY := hid hxy
          clear hxy hxy1
          go_wp2
          go_quiet (fail)
          go_wp2
          go_roundw
          case rel => exact ⟨rfl, k + 1, by omega, by go_num, (ha.out.trans (by rw [HD.out, if_pos HXY.out]) : _), below_drewN hb _⟩
          case measure => simp [intOf]; omega
        · have hxy1 : decide ((x1, y1) = (x2, y2)) = false := by simpa using hxy
          rw [hxy1] at he
          have HXY : Hid (¬ (x1, y1) = (x2, y2)) := hxy
          clear hxy hxy1
          go_wp2
          go_quiet (fail)
          go_wp2
          go_ret
          exact ⟨ret_bool (by rw [ha.out, HD.out, if_neg HXY.out]), below_drewN hb _⟩
      · go_wp2
        go_ret
        exact ⟨ret_bool (by rw [ha.out, List.drop_eq_nil_of_le (by omega)]; rfl), hb⟩
  · have hne : decide (xs = ys) = false := by simp; intro e; exact hl (by rw [e])
    have hl' : ((xs.length : Int) != (ys.length : Int)) = true := by rw [bne_iff_ne]; omega
    have HN := hid hne
    clear hne hl
    go_enter Try.func88, Try.ntmps88
    go_wp2
    go_ret
    exact ⟨ret_bool HN.out.symm, Below.refl _ _⟩

section
variable {a b : Option Addr} {ca cb : Nat} {xs ys : List Pid} {w : World} {bm : Bool} (h : Hid (decide (xs = ys) = bm)) (hn : xs.length ≤ 70368744177664) (hm : ys.length ≤ 70368744177664) (hx : PidRow w a xs) (hy : PidRow w b ys)
include h hn hm hx hy
theorem equal_is : Calls Try.prog 88 #[.slice a xs.length ca, .slice b ys.length cb] w fun e w' => e = .returned (.bool bm) ∧ Below w.heap.size w w' := by
  have := equal_any a b ca cb xs ys w hn hm hx hy
  rw [h.out] at this
  exact this
end
set_option maxRecDepth 100000 in
set_option maxHeartbeats 1600000 in
theorem equalFunc_any (a b : Option Addr) (ca cb : Nat) (xs ys : List (List Pid)) (w : World) (hn : xs.length ≤ 70368744177664) (_hm : ys.length ≤ 70368744177664) (hx : LeafRow w a xs) (hy : LeafRow w b ys)
    (hln : ∀ l ∈ xs, l.length ≤ 70368744177664) (hlm : ∀ l ∈ ys, l.length ≤ 70368744177664) :
   Calls Try.prog 205 #[.slice a xs.length ca, .slice b ys.length cb, .func (.func 88) #[] #[]] w fun e w' => e = .returned (.bool (decide (xs = ys))) ∧ Below w.heap.size w w' := by
  by_cases hl : xs.length = ys.length
  · have hsp := eqLFrom_eq hl
    have hl' : ((xs.length : Int) != (ys.length : Int)) = false := by rw [hl]; simp
    have HL := hid hl
    have HSP := hid hsp
    clear hl hsp
    go_enter Try.func205, Try.ntmps205
    go_wp2
    go_loopw [6, 17] (fun rs kv wr => rs = .bool false ∧ ∃ k : Nat, k ≤ xs.length ∧ kv = .int .i64 k ∧ Hid (decide (xs = ys) = eqLFrom (xs.drop k) (ys.drop k)) ∧ Below w.heap.size w wr) (fun _ kv _ => xs.length - (intOf kv).toNat)
    case atStart => exact ⟨rfl, 0, Nat.zero_le _, rfl, HSP, Below.refl _ _⟩
    case round =>
      obtain ⟨rfl, k, hk, rfl, ha, hb⟩ := hrel
      by_cases hkt : k < xs.length
      · have hkt' : k < ys.length := by have := HL.out; omega
        obtain ⟨b1, o1, a1, c1, l1, rfl, hx1, q1, r1⟩ := hx.at hb rfl hkt
        obtain ⟨b2, o2, a2, c2, l2, rfl, hx2, q2, r2⟩ := hy.at hb rfl hkt'
        have hl1 : l1.length ≤ 70368744177664 := hln l1 (by rw [hx1]; exact List.getElem_mem _)
        have hl2 : l2.length ≤ 70368744177664 := hlm l2 (by rw [hx2]; exact List.getElem_mem _)
        have hd := eqLFrom_drop hkt hkt' hx1 hx2
        have HD := hid hd
        clear hd hx1 hx2
        cases hxy : decide (l1 = l2)
        · have HXY := hid hxy
          clear hxy
          go_wp2_with (go_at_call 88; refine (equal_is HXY hl1 hl2 r1 r2).mono ?_; rintro e w3 ⟨rfl, hb3⟩)
          go_ret
          exact ⟨ret_bool (by rw [ha.out, HD.out, if_neg (of_decide_eq_false HXY.out)]), hb.trans (hb3.mono hb.size)⟩
        · have HXY := hid hxy
          clear hxy
          go_wp2_with (go_at_call 88; refine (equal_is HXY hl1 hl2 r1 r2).mono ?_; rintro e w3 ⟨rfl, hb3⟩)
          go_roundw
          case rel => exact ⟨rfl, k + 1, by omega, by go_num, (ha.out.trans (by rw [HD.out, if_pos (of_decide_eq_true HXY.out)]) : _), hb.trans (hb3.mono hb.size)⟩
          case measure => simp [intOf]; omega
      · go_wp2
        go_ret
        exact ⟨ret_bool (by rw [ha.out, List.drop_eq_nil_of_le (by omega)]; rfl), hb⟩
  · have hne : decide (xs = ys) = false := by simp; intro e; exact hl (by rw [e])
    have hl' : ((xs.length : Int) != (ys.length : Int)) = true := by rw [bne_iff_ne]; omega
    have HN := hid hne
    clear hne hl
    go_enter Try.func205, Try.ntmps205
    go_wp2
    go_ret
    exact ⟨ret_bool HN.out.symm, Below.refl _ _⟩
end Go.Proofs.Ytbpfhclcjedkcaa


import Derived.Test.YtjjahefedpfnaaaW2
import Derived.Maps.OwnSet
namespace Go.Proofs.Ytjjahefedpfnaaa
open Go.RowKit
open Go.Instr Go.MapKept

/-- first place and value at a key -/
def lookI {α β : Type} [DecidableEq α] (x : α) : List (α × β) → Nat → Option (Nat × β)
  | [], _ => none
  | p :: l, i => if x = p.1 then some (i, p.2) else lookI x l (i + 1)
def look {α β : Type} [DecidableEq α] (x : α) : List (α × β) → Option β
  | [] => none
  | p :: l => if x = p.1 then some p.2 else look x l
def ins {α β : Type} [DecidableEq α] (x : α) (v : β) : List (α × β) → List (α × β)
  | [] => [(x, v)]
  | p :: l => if x = p.1 then (x, v) :: l else p :: ins x v l
def del {α β : Type} [DecidableEq α] (x : α) : List (α × β) → List (α × β)
  | [] => []
  | p :: l => if x = p.1 then l else p :: del x l

/-- what the laws ask of a key type -/
structure KeyOk (P : Program) (K : TypeId) {α : Type} [DecidableEq α] (ke : α → Value) : Prop where
  find : ∀ (x : α) (L : List (α × Value)) (es : List MapEntry) (w : World), es.map (fun e => (e.key, e.val)) = L.map (fun p => (ke p.1, p.2)) →
    (findKey K (ke x) es).run P w = .ok (lookI x L 0) w
  check : ∀ (b : Bool) (x : α) (w : World), (checkKey b 10000 K (ke x)).run P w = .ok () w
  same : ∀ x, sameBits 10000 (ke x) (ke x) = true

def bornOk (es : Array MapEntry) (clock : Nat) : Prop := (es.toList.map (·.born)).Nodup ∧ ∀ e ∈ es.toList, e.born < clock

def MapIs {α β : Type} (w : World) (r : Nat) (ke : α → Value) (ve : β → Value) (L : List (α × β)) : Prop :=
  ∃ es clock, w.heap[r]? = some (.map es clock) ∧ es.toList.map (fun e => (e.key, e.val)) = L.map (fun p => (ke p.1, ve p.2)) ∧ bornOk es clock

section
set_option linter.unusedSectionVars false
variable {α β : Type} [DecidableEq α] {ke : α → Value} {ve : β → Value} {P : Program} {K : TypeId}

theorem MapIs.lt {w : World} {r : Nat} {L : List (α × β)} (h : MapIs w r ke ve L) : r < w.heap.size := by
  obtain ⟨es, clock, hb, _⟩ := h
  exact (Array.getElem?_eq_some_iff.1 hb).1
theorem MapIs.same {w w' : World} {r : Nat} {L : List (α × β)} (h : MapIs w r ke ve L) (hb : w'.heap[r]? = w.heap[r]?) : MapIs w' r ke ve L := by
  obtain ⟨es, clock, h1, h2⟩ := h
  exact ⟨es, clock, hb.trans h1, h2⟩
theorem MapIs.ext {w w' : World} {r : Nat} {L : List (α × β)} (h : MapIs w r ke ve L) (hb : Below w.heap.size w w') : MapIs w' r ke ve L :=
  h.same (hb.block _ h.lt)
theorem MapIs.alloc {w : World} {r : Nat} {L : List (α × β)} (h : MapIs w r ke ve L) (o : Obj) : MapIs (w.alloc o) r ke ve L :=
  h.ext ((Below.refl _ _).alloc (Nat.le_refl _) _)
theorem MapIs.setCell {w : World} {r : Nat} {L : List (α × β)} (h : MapIs w r ke ve L) {p : Addr} (hp : r ≠ p.block) (u : Value) : MapIs (w.setCell p u) r ke ve L :=
  h.same (Below.heap_setCell _ _ _ _ hp)
theorem MapIs.made (w : World) : MapIs (w.alloc (.map #[] 0)) w.heap.size ke ve ([] : List (α × β)) :=
  ⟨#[], 0, (MapKept.heap_alloc w _).1, rfl, by simp [bornOk]⟩

theorem MapIs.made' (w : World) {r : Nat} (h : r = w.heap.size) : MapIs (w.alloc (.map #[] 0)) r ke ve ([] : List (α × β)) := by
  subst h; exact MapIs.made w

theorem lookI_map (f : β → Value) (x : α) : ∀ (L : List (α × β)) (i : Nat), lookI x (L.map fun p => (p.1, f p.2)) i = (lookI x L i).map fun q => (q.1, f q.2)
  | [], _ => rfl
  | p :: l, i => by
    simp only [List.map_cons, lookI]
    split
    · rfl
    · exact lookI_map f x l (i + 1)
theorem lookI_look (x : α) : ∀ (L : List (α × β)) (i : Nat), (lookI x L i).map (·.2) = look x L
  | [], _ => rfl
  | p :: l, i => by
    simp only [lookI, look]
    split
    · rfl
    · exact lookI_look x l (i + 1)
theorem lookI_some {x : α} : ∀ {L : List (α × β)} {i j : Nat} {v : β}, lookI x L i = some (j, v) → i ≤ j ∧ j - i < L.length ∧ (∃ u, L[j - i]? = some (x, u)) ∧ ∀ u, ins x u L = L.set (j - i) (x, u)
  | [], _, _, _, h => by simp [lookI] at h
  | p :: l, i, j, v, h => by
    simp only [lookI] at h
    split at h
    · next hx =>
      simp only [Option.some.injEq, Prod.mk.injEq] at h
      obtain ⟨rfl, rfl⟩ := h
      refine ⟨Nat.le_refl _, by simp, ⟨p.2, by simp [hx]⟩, fun u => by simp [ins, hx]⟩
    · next hx =>
      obtain ⟨h1, h2, h3, h4⟩ := lookI_some h
      have e : j - i = (j - (i + 1)) + 1 := by omega
      refine ⟨by omega, by simp; omega, ?_, fun u => ?_⟩
      · rw [e]; simpa using h3
      · rw [e]; simp only [ins, if_neg hx, List.set_cons_succ, h4 u]
theorem lookI_none {x : α} : ∀ {L : List (α × β)} {i : Nat}, lookI x L i = none → ∀ u, ins x u L = L ++ [(x, u)]
  | [], _, _, u => rfl
  | p :: l, i, h, u => by
    simp only [lookI] at h
    split at h
    · simp at h
    · next hx => simp [ins, if_neg hx, lookI_none h u]

theorem find_run {w : World} {L : List (α × β)} (kk : KeyOk P K ke) {es : Array MapEntry} (he : es.toList.map (fun e => (e.key, e.val)) = L.map (fun p => (ke p.1, ve p.2))) (x : α) :
    (findKey K (ke x) es.toList).run P w = .ok ((lookI x L 0).map fun q => (q.1, ve q.2)) w := by
  rw [kk.find x (L.map fun p => (p.1, ve p.2)) es.toList w (by rw [he]; simp), lookI_map]

theorem MapIs.lookup_ok {w : World} {r : Nat} {L : List (α × β)} (h : MapIs w r ke ve L) (kk : KeyOk P K ke) {t e : TypeId} (ht : P.underlying t = some (.map K e))
    {z : Value} (hz : (zeroValue e).run P w = .ok z w) (x : α) :
    (Instr.lookup t (.map (some r)) (ke x) true).run P w = .ok (.tuple #[((look x L).map ve).getD z, .bool (look x L).isSome]) w := by
  obtain ⟨es, clock, hb, he, _⟩ := h
  have hf := find_run (w := w) kk he x
  have hl := lookI_look x L 0
  cases hq : lookI x L 0 with
  | none =>
    rw [hq] at hl hf
    simp [Instr.lookup, run_underlying ht, MapKept.run_getObj_map hb, kk.check, hf, Result.andThen, ← hl, hz]
  | some q =>
    rw [hq] at hl hf
    simp [Instr.lookup, run_underlying ht, MapKept.run_getObj_map hb, kk.check, hf, Result.andThen, ← hl]
theorem MapIs.lookup_no {w : World} {r : Nat} {L : List (α × β)} (h : MapIs w r ke ve L) (kk : KeyOk P K ke) {t e : TypeId} (ht : P.underlying t = some (.map K e))
    {z : Value} (hz : (zeroValue e).run P w = .ok z w) (x : α) :
    (Instr.lookup t (.map (some r)) (ke x) false).run P w = .ok (((look x L).map ve).getD z) w := by
  obtain ⟨es, clock, hb, he, _⟩ := h
  have hf := find_run (w := w) kk he x
  have hl := lookI_look x L 0
  cases hq : lookI x L 0 with
  | none =>
    rw [hq] at hl hf
    simp [Instr.lookup, run_underlying ht, MapKept.run_getObj_map hb, kk.check, hf, Result.andThen, ← hl, hz]
  | some q =>
    rw [hq] at hl hf
    simp [Instr.lookup, run_underlying ht, MapKept.run_getObj_map hb, kk.check, hf, Result.andThen, ← hl]

/-- w' is w but for block r -/
structure But (r : Nat) (w w' : World) : Prop where
  os : w'.os = w.os
  tape : w'.tape = w.tape
  output : w'.output = w.output
  size : w'.heap.size = w.heap.size
  block : ∀ k, k ≠ r → w'.heap[k]? = w.heap[k]?
theorem But.below {r B : Nat} {w w' : World} (h : But r w w') (hB : B ≤ r) : Below B w w' :=
  ⟨h.os, h.tape, h.output, by rw [h.size]; exact Nat.le_refl _, fun k hk => h.block k (by omega)⟩
theorem But.cell {r : Nat} {w w' : World} (h : But r w w') {p : Addr} (hp : p.block ≠ r) : w'.cell? p = w.cell? p := World.cell?_of_block (w := w) (h.block p.block hp)
theorem But.frozen {r : Nat} {w w' : World} (h : But r w w') {p : Addr} (hp : p.block ≠ r) : w'.frozen? p = w.frozen? p := World.frozen?_of_block (w := w) (h.block p.block hp)
theorem But.of_set (w : World) (r : Nat) (o : Obj) : But r w { w with heap := w.heap.setIfInBounds r o } :=
  ⟨rfl, rfl, rfl, by simp, fun k hk => by simp [Ne.symm hk]⟩

theorem lookI_lt {x : α} {L : List (α × β)} {q : Nat × β} (h : lookI x L 0 = some q) : q.1 < L.length := by
  obtain ⟨j, v⟩ := q
  have := (lookI_some h).2.1
  simpa using this

theorem MapIs.update {w : World} {r : Nat} {L : List (α × β)} (h : MapIs w r ke ve L) (kk : KeyOk P K ke) {t e : TypeId} (ht : P.underlying t = some (.map K e)) (x : α) (v : β) :
    ∃ w', (Instr.mapUpdate t (.map (some r)) (ke x) (ve v)).run P w = .ok () w' ∧ MapIs w' r ke ve (ins x v L) ∧ But r w w' := by
  obtain ⟨es, clock, hb, he, hbn⟩ := h
  have hf := find_run (w := w) kk he x
  have hlen : es.toList.length = L.length := by simpa using congrArg List.length he
  cases hq : lookI x L 0 with
  | none =>
    rw [hq] at hf
    refine ⟨{ w with heap := w.heap.setIfInBounds r (.map (es.push { key := ke x, val := ve v, born := clock }) (clock + 1)) },
      by simp [Instr.mapUpdate, run_underlying ht, MapKept.run_getObj_map hb, kk.check, hf, run_setObj_map _ hb, Result.andThen], ⟨_, _, (heap_set hb).1, ?_, ?_⟩, But.of_set _ _ _⟩
    · rw [lookI_none hq]; simp [he]
    · obtain ⟨h1, h2⟩ := hbn
      refine ⟨?_, ?_⟩
      · simp only [Array.toList_push, List.map_append, List.map_cons, List.map_nil]
        rw [List.nodup_append]
        refine ⟨h1, by simp, ?_⟩
        intro a ha b hb' 
        simp at hb'; subst hb'
        obtain ⟨e0, he0, rfl⟩ := List.mem_map.1 ha
        exact Nat.ne_of_lt (h2 e0 he0)
      · intro e0 he0
        simp only [Array.toList_push, List.mem_append, List.mem_singleton] at he0
        rcases he0 with he0 | rfl
        · have := h2 e0 he0; omega
        · simp
  | some q =>
    obtain ⟨j, u⟩ := q
    have hlt := lookI_lt hq
    obtain ⟨_, _, ⟨u', hu'⟩, hins⟩ := lookI_some hq
    simp only [Nat.sub_zero] at hu' hins hlt
    rw [hq] at hf
    have hj : ∃ e0, es[j]? = some e0 ∧ e0.key = ke x := by
      have : (es.toList.map (fun e => (e.key, e.val)))[j]? = some (ke x, ve u') := by rw [he, List.getElem?_map, hu']; rfl
      rw [List.getElem?_map] at this
      cases hej : es.toList[j]? with
      | none => rw [hej] at this; simp at this
      | some e0 =>
        rw [hej] at this
        simp at this
        exact ⟨e0, by simpa using hej, this.1⟩
    obtain ⟨e0, hej, hek⟩ := hj
    refine ⟨{ w with heap := w.heap.setIfInBounds r (.map (es.modify j fun e => { e with key := ke x, val := ve v }) clock) },
      by simp [Instr.mapUpdate, run_underlying ht, MapKept.run_getObj_map hb, kk.check, hf, hej, hek, Instr.keyThatStays, kk.same, run_setObj_map _ hb, Result.andThen], ⟨_, _, (heap_set hb).1, ?_, ?_⟩, But.of_set _ _ _⟩
    · rw [hins]
      apply List.ext_getElem?
      intro i
      have hi : (es.toList.map (fun e => (e.key, e.val)))[i]? = (L.map (fun p => (ke p.1, ve p.2)))[i]? := by rw [he]
      simp only [List.getElem?_map, Array.toList_modify, List.getElem?_modify, List.getElem?_set] at hi ⊢
      by_cases hij : j = i
      · subst hij
        simp [hlt, hej, hu']
      · simp [hij] at hi ⊢
        exact hi
    · obtain ⟨h1, h2⟩ := hbn
      have hborn : (es.modify j fun e => { e with key := ke x, val := ve v }).toList.map (·.born) = es.toList.map (·.born) := by
        apply List.ext_getElem?
        intro i
        simp only [List.getElem?_map, Array.toList_modify, List.getElem?_modify]
        split
        · cases es.toList[i]? <;> simp
        · simp
      refine ⟨by rw [hborn]; exact h1, fun e1 he1 => ?_⟩
      have : e1.born ∈ es.toList.map (·.born) := by rw [← hborn]; exact List.mem_map_of_mem he1
      obtain ⟨e2, he2, heq⟩ := List.mem_map.1 this
      rw [← heq]; exact h2 e2 he2

theorem MapIs.len {w : World} {r : Nat} {L : List (α × β)} (h : MapIs w r ke ve L) {t e : TypeId} (ht : P.underlying t = some (.map K e)) (ty : TypeId) :
    (Builtin.len_ #[t] ty #[.map (some r)]).run P w = .ok (.int .i64 L.length) w := by
  obtain ⟨es, clock, hb, he, _⟩ := h
  have hlen : es.size = L.length := by simpa using congrArg List.length he
  simp [Builtin.len_, run_underlying ht, MapKept.run_getObj_map hb, Result.andThen, goInt, hlen]
end

/-- a lookup with ok, at the operation -/
theorem wpList_lookup_is {α β : Type} [DecidableEq α] {ke : α → Value} {ve : β → Value} {P : Program} {K : TypeId} (kk : KeyOk P K ke) {w : World} {ops : Array Oper} {rest : List Oper} {o : Oper} {a : Act} {Q : Exit → Act → World → Prop}
    {m x : Operand} {t e : TypeId} (ht : P.underlying t = some (.map K e)) (z : Value) (hz : ∀ w, (zeroValue e).run P w = .ok z w) {r : Nat} {L : List (α × β)} (hM : MapIs w r ke ve L) (y : α) (V : Value) (hV : ((look y L).map ve).getD z = V) {bs : Bool} (hs : Hid ((look y L).isSome = bs))
    (hg : o.guard = none) (hop : o.op = Op.lookup t m x true) (hm : a.eval m = .map (some r)) (hx : a.eval x = ke y)
    (hK : wpList P ops Q rest (a.put o.dst (.tuple #[V, .bool bs])) w) :
    wpList P ops Q (o :: rest) a w := by
  refine wpList_plain hg fun K' hK' => ?_
  have hrun := hM.lookup_ok kk ht (hz w) y
  rw [hV, hs.out] at hrun
  unfold Oper.wp
  simp [execOp, hop, hm, hx, hrun, Result.andThen]
  exact hK' _ _ hK
abbrev e16 : Int → Value := fun x => .int .u16 x
abbrev eU : Unit → Value := fun _ => .agg #[]
abbrev eI : Int → Value := fun x => .int .i64 x
theorem look_unit {α : Type} [DecidableEq α] (y : α) (L : List (α × Unit)) : ((look y L).map eU).getD (.agg #[]) = .agg #[] := by cases look y L <;> rfl
theorem look_int {α : Type} [DecidableEq α] (y : α) (L : List (α × Int)) : ((look y L).map eI).getD (.int .i64 0) = .int .i64 ((look y L).getD 0) := by cases look y L <;> rfl
theorem wpList_mapUpdate_is {α β : Type} [DecidableEq α] {ke : α → Value} {ve : β → Value} {P : Program} {K : TypeId} (kk : KeyOk P K ke) {w : World} {ops : Array Oper} {rest : List Oper} {o : Oper} {a : Act} {Q : Exit → Act → World → Prop}
    {m x v : Operand} {t e : TypeId} (ht : P.underlying t = some (.map K e)) {r : Nat} {L : List (α × β)} (hM : MapIs w r ke ve L) (y : α) (u : β)
    (hg : o.guard = none) (hop : o.op = Op.mapUpdate t m x v) (hm : a.eval m = .map (some r)) (hx : a.eval x = ke y) (hv : a.eval v = ve u)
    (hK : ∀ w', MapIs w' r ke ve (ins y u L) → But r w w' → wpList P ops Q rest (a.put o.dst undef) w') :
    wpList P ops Q (o :: rest) a w := by
  refine wpList_plain hg fun K' hK' => ?_
  obtain ⟨w', hrun, r1, r2⟩ := hM.update kk ht y u
  unfold Oper.wp
  simp [execOp, hop, hm, hx, hv, hrun, Result.andThen]
  exact hK' _ _ (hK w' r1 r2)

/-! ### the two key types -/
theorem key16 (K : TypeId) (hK : Try.prog.underlying K = some (.int .u16)) : KeyOk Try.prog K (fun (x : Int) => Value.int .u16 x) where
  find := by
    intro x L es w h
    simp only [findKey, Sem.run_bind, run_underlying hK, Result.andThen]
    have : ∀ (es : List MapEntry) (L : List (Int × Value)) (i : Nat), es.map (fun e => (e.key, e.val)) = L.map (fun p => (Value.int .u16 p.1, p.2)) → findNow (.int .u16) (.int .u16 x) es i = some (lookI x L i) := by
      intro es
      induction es with
      | nil => intro L i h; cases L with | nil => rfl | cons _ _ => simp at h
      | cons e es ih =>
        intro L i h
        cases L with
        | nil => simp at h
        | cons p L =>
          simp only [List.map_cons, List.cons.injEq, Prod.mk.injEq] at h
          obtain ⟨⟨h1, h2⟩, h3⟩ := h
          simp only [findNow, h1, sameNow, lookI, if_true]
          by_cases hx : x = p.1
          · simp [hx, h2]
          · have hb : (x == p.1) = false := by simpa using hx
            simp [hx, hb, ih L (i + 1) h3]
    rw [this es L 0 h]
    simp
  check := by intro b x w; exact run_checkKey (n := 9999) hK (by simp [IsKey]) b
  same := by intro x; simp [sameBits]
theorem key16_116 : KeyOk Try.prog 29 (fun (x : Int) => Value.int .u16 x) := key16 29 Try.underlying29
abbrev pidV (p : Pid) : Value := .agg #[.int .u16 p.1, .int .u32 p.2]
theorem equal_pid (a b c d : Int) (w : World) : (Op.equal 32 (.agg #[.int .u16 a, .int .u32 b]) (.agg #[.int .u16 c, .int .u32 d])).run Try.prog w = .ok (decide ((a, b) = (c, d))) w := by
  have hS : Try.prog.underlying 32 = some (.struct (Try.prog.fieldsOf 32)) := by kernel_rfl
  have hp : Try.prog.stoodInHeld 32 = false := by kernel_rfl
  unfold Op.equal Op.maxDepth
  rw [show (10000 : Nat) = 9999 + 1 from rfl, run_equalIn_agg w 9999 32 _ _ hS hp]
  simp only [Program.fieldsOf, Try.underlying32]
  go_simp
  by_cases h1 : a = c <;> by_cases h2 : b = d <;> simp [h1, h2]
theorem keyPid : KeyOk Try.prog 32 pidV where
  find := by
    intro x L es w h
    cases es with
    | nil =>
      cases L with
      | nil => simp [findKey, run_underlying Try.underlying32, Result.andThen, findNow, lookI]
      | cons _ _ => simp at h
    | cons e es =>
      have hn : ∀ d, findNow (.struct d) (pidV x) (e :: es) 0 = none := by intro d; simp [findNow, sameNow]
      simp only [findKey, Sem.run_bind, run_underlying Try.underlying32, Result.andThen, hn]
      generalize e :: es = es' at h
      have : ∀ (es : List MapEntry) (L : List (Pid × Value)) (i : Nat), es.map (fun e => (e.key, e.val)) = L.map (fun p => (pidV p.1, p.2)) → (findAsking 32 (pidV x) es i).run Try.prog w = .ok (lookI x L i) w := by
        intro es
        induction es with
        | nil => intro L i h; cases L with | nil => simp [findAsking, lookI] | cons _ _ => simp at h
        | cons e es ih =>
          intro L i h
          cases L with
          | nil => simp at h
          | cons p L =>
            simp only [List.map_cons, List.cons.injEq, Prod.mk.injEq] at h
            obtain ⟨⟨h1, h2⟩, h3⟩ := h
            have he := equal_pid x.1 x.2 p.1.1 p.1.2 w
            simp only [findAsking, h1, Sem.run_bind, he, Result.andThen, lookI]
            by_cases hx : x = p.1
            · simp [hx, h2]
            · simp [hx, ih L (i + 1) h3]
      exact this es' L 0 h
  check := by
    intro b x w
    kernel_rfl
  same := by intro x; simp [sameBits]
theorem zero106 (w : World) : (zeroValue 95).run Try.prog w = .ok (.agg #[]) w := by kernel_rfl
theorem zero3 (w : World) : (zeroValue 3).run Try.prog w = .ok (.int .i64 0) w := by kernel_rfl
end Go.Proofs.Ytjjahefedpfnaaa

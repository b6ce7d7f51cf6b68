/- Parts of the proof: L2 T2 M1. -/
import Derived.Maps.RangeRun
import Derived.Maps.RangeWalk
import Derived.Test.YtbpfhclcjedkcaaLa2
import Derived.Test.YtbpfhclcjedkcaaLa3
namespace Go.Proofs.Ytbpfhclcjedkcaa
open Go.RowKit

theorem quiet_of {P : Program} {f : FuncId} {args : Array Value} {w0 : World} {U : ExtW w0} {v v' : Value} (h : Calls P f args U.W fun e w' => e = .returned v ∧ Below U.W.heap.size U.W w') (hv : v = v') :
    Calls P f args U.W fun e w' => e = .returned v' ∧ ∃ U' : ExtW w0, w' = U'.W := by
  subst hv
  exact h.mono fun _ _ ⟨h1, h2⟩ => ⟨h1, ⟨_, U.h.trans (h2.mono U.h.size)⟩, rfl⟩

section
variable (V : View) (am al ad : Option Addr) (cm cl cd : Nat) (x y : Int) (w : World)
end
/-! ### two quorums meet -/
theorem mem_unionL {p : Pid} : ∀ {xs : List Pid} {L : List (Pid × Unit)}, p ∈ keys (unionL L xs) ↔ p ∈ keys L ∨ p ∈ xs
  | [], L => by simp [unionL]
  | q :: l, L => by
    simp only [unionL]
    rw [mem_unionL]
    have : p ∈ keys (add1 q L) ↔ p ∈ keys L ∨ p = q := by
      by_cases h : q ∈ keys L
      · rw [add1_of_mem h]
        constructor
        · exact .inl
        · rintro (h1 | rfl)
          · exact h1
          · exact h
      · rw [add1_of_not h]; simp [keys]
    rw [this, List.mem_cons, or_assoc]
end Go.Proofs.Ytbpfhclcjedkcaa

namespace Go.Proofs.Ytbpfhclcjedkcaa
open Go.RowKit
open Go.Sort (grow grow_grow grow_empty alloc_eq_grow putRow putCells HoldsK Holds flatK SWO heap_grow_old mapBlock onCells)

abbrev WP : Type := { p : Pid // ok p }
instance : Inhabited WP := ⟨⟨(0, 0), by unfold ok; simp⟩⟩
def encW (x : WP) : List Value := [.int .u16 x.val.1, .int .u32 x.val.2]
def cmpW (x y : WP) : Int := cmpP x.val y.val
theorem ltW (x y : WP) : ltOf cmpW x y = ahead x.val y.val := by
  unfold ltOf cmpW cmpP
  cases ahead x.val y.val <;> simp
theorem swoW : SWO (ltOf cmpW) where
  irrefl x := by rw [ltW]; simp [ahead]
  trans x y z h1 h2 := by rw [ltW] at *; simp [ahead] at *; omega
  ntrans x y z h1 h2 := by rw [ltW] at *; simp [ahead] at *; omega
theorem numOf_inj {p q : Pid} (hp : ok p) (hq : ok q) (h : numOf p = numOf q) : p = q := by
  obtain ⟨a, b⟩ := p
  obtain ⟨c, d⟩ := q
  unfold numOf at h
  obtain ⟨h1, h2, h3, h4⟩ := hp
  obtain ⟨g1, g2, g3, g4⟩ := hq
  simp only at *
  have e1 : a = c := by omega
  have e2 : b = d := by omega
  rw [e1, e2]
theorem totW (x y : WP) (h1 : ltOf cmpW x y = false) (h2 : ltOf cmpW y x = false) : x = y := by
  rw [ltW] at h1 h2
  simp [ahead] at h1 h2
  exact Subtype.ext (numOf_inj x.2 y.2 (by omega))

theorem flat_cells (d : Array WP) : (flatK encW 2 d).toList = pidCells (d.toList.map (·.val)) := by
  apply List.ext_getElem?
  intro t
  by_cases ht : t < d.size * 2
  · have h1 : t / 2 < d.size := by omega
    have g := Sort.get_flatK encW 2 d t ht
    have hl : (flatK encW 2 d).toList[t]? = some (flatK encW 2 d)[t]! := by
      rw [getElem!_pos (flatK encW 2 d) t (by simpa using ht)]
      simp [ht]
    rw [hl, g]
    obtain ⟨c1, c2⟩ := pidCells_get (d.toList.map (·.val)) (t / 2) (by simpa using h1)
    have hd : d[t / 2]! = d[t / 2] := getElem!_pos d _ h1
    rcases Nat.mod_two_eq_zero_or_one t with hm | hm
    · rw [show t / 2 * 2 = t by omega] at c1
      rw [c1, hm, hd]; simp [encW]
    · rw [show t / 2 * 2 + 1 = t by omega] at c2
      rw [c2, hm, hd]; simp [encW]
  · rw [List.getElem?_eq_none (by simp; omega), List.getElem?_eq_none (by rw [pidCells_length]; simp; omega)]

theorem heap_put {w : World} {g n : Nat} {os : Array Obj} {cur : Array Value} {e : TypeId} {fr : Nat × Nat} (F : Array Value) (hb : w.heap[g]? = some (.cells cur e fr)) :
    (grow (putRow id (Sort.ahead w n) g 0 F) os).heap[g]? = some (.cells (putCells id 0 F cur) e fr) := by
  have hg : g < w.heap.size := (Array.getElem?_eq_some_iff.1 hb).1
  rw [heap_grow_old _ _ (by simpa using hg)]
  simp [putRow, mapBlock, Sort.ahead, Array.getElem?_modify, hb, onCells]
theorem grownBy_put {w : World} {g n : Nat} {os : Array Obj} (F : Array Value) : w.grownBy (grow (putRow id (Sort.ahead w n) g 0 F) os) (some g) := by
  refine ⟨rfl, rfl, rfl, by simp, fun k hk hne => ?_⟩
  rw [heap_grow_old _ _ (by simpa using hk)]
  have : g ≠ k := fun e => hne (by rw [e])
  simp [putRow, mapBlock, Sort.ahead, Array.getElem?_modify, this]
theorem take_put (cur F : Array Value) (h : F.size ≤ cur.size) : (putCells id 0 F cur).toList.take F.size = F.toList := by
  apply List.ext_getElem?
  intro j
  by_cases hj : j < F.size
  · rw [List.getElem?_take_of_lt hj, Array.getElem?_toList]
    simp [putCells, hj, show j < cur.size by omega]
  · rw [List.getElem?_take_eq_none (by omega), List.getElem?_eq_none (by simp; omega)]
theorem holds_put {w : World} {g : Nat} {cur F : Array Value} {e : TypeId} (hb : w.heap[g]? = some (.cells cur e (0, 0))) (ht : cur.toList.take F.size = F.toList) : Holds id w g 0 F := by
  intro j hj
  refine ⟨?_, by simp [World.frozen?, hb]⟩
  have h1 : (cur.toList.take F.size)[j]? = F.toList[j]? := by rw [ht]
  rw [List.getElem?_take_of_lt hj] at h1
  simp only [World.cell?, hb, Nat.zero_add, Option.isSome_none, Bool.false_eq_true, if_false]
  rw [← Array.getElem?_toList, h1]
  simp [hj]

/-- processes, sorted (each once, if they are so) -/
def sortL (ps : List Pid) : List Pid := ps.mergeSort fun x y => !(ahead y x)
theorem sortL_length (ps : List Pid) : (sortL ps).length = ps.length := List.length_mergeSort _
theorem cmpLays (blk off size : Nat) (w : World) : CmpLays Try.prog 210 #[] encW 2 cmpW blk off size w :=
  fun _ _ _ _ x y => cmp_any x.val.1 x.val.2 y.val.1 y.val.2 _ x.2 y.2
theorem sortFunc_own {w : World} {base : Nat} {v : Value} {ps : List Pid} (hown : OwnP w base v ps) (hok : ∀ p ∈ ps, ok p) (hn : ps.length < 4611686018427387904) :
    Calls Try.prog 209 #[v, .func (.func 210) #[] #[]] w fun e w' => e = .returned (.tuple #[]) ∧ OwnP w' base v (sortL ps) ∧ w.grownBy w' v.ownBlock := by
  have eg : ∀ args w, (callFunc 210 args).run Try.prog w = .ok (.enter 210 args) w := enters_of Try.func210 (by kernel_rfl) rfl
  rcases hown.2 with ⟨rfl, h0⟩ | ⟨g, cap, cur, rfl, hb, hg, hnc, hcm, hcs, htake⟩
  · have hp : ps = [] := List.length_eq_zero_iff.1 h0
    subst hp
    have hcon := AnyF.slices_SortFunc_none Try.sortPid none 0 (.func (.func 210) #[] #[]) w
    change Calls Try.prog 209 _ _ _ at hcon
    refine hcon.mono ?_
    rintro e w' ⟨rfl, rfl⟩
    exact ⟨rfl, by rw [show sortL [] = [] by simp [sortL]]; exact OwnP.nil _ _, ⟨rfl, rfl, rfl, Nat.le_refl _, fun _ _ _ => rfl⟩⟩
  · obtain ⟨d, hd, hds⟩ : ∃ d : Array WP, d.toList.map (·.val) = ps ∧ d.size = ps.length := by
      refine ⟨(ps.pmap Subtype.mk hok).toArray, ?_, by simp⟩
      simp [List.map_pmap]
    have hF : (flatK encW 2 d).toList = pidCells ps := by rw [flat_cells, hd]
    have hFs : (flatK encW 2 d).size = ps.length * 2 := by simp [hds]
    have hH : HoldsK encW 2 w g 0 d := holds_put hg (by rw [hFs, hF]; exact htake)
    have hlt : g < w.heap.size := (Array.getElem?_eq_some_iff.1 hg).1
    have hcon := AnyQ.slices_SortFunc_total Try.sortPid 2 Try.isAgg26 Try.sizeOf26 encW (fun _ => rfl) (fun x v hv => by simp [encW] at hv; rcases hv with rfl | rfl <;> rfl) cmpW swoW 210 #[] g 0 cap d w eg (cmpLays g 0 d.size w) hH hlt (by rw [hds]; exact hn) totW
    change Calls Try.prog 209 _ _ _ at hcon
    rw [hds] at hcon
    refine hcon.mono ?_
    rintro e w' ⟨rfl, n, os, rfl⟩
    obtain ⟨d', hd'⟩ : ∃ d' : Array WP, d' = (d.toList.mergeSort fun x y => !(ltOf cmpW) y x).toArray := ⟨_, rfl⟩
    rw [← hd']
    have hs' : d'.toList.map (·.val) = sortL ps := by
      rw [hd', ← hd]
      unfold sortL
      rw [List.map_mergeSort]
      intro a _ b _
      rw [ltW]
    have hsz : d'.size = ps.length := by rw [hd']; simp [List.length_mergeSort, hds]
    have hF' : (flatK encW 2 d').toList = pidCells (sortL ps) := by rw [flat_cells, hs']
    have hFs' : (flatK encW 2 d').size = ps.length * 2 := by simp [hsz]
    refine ⟨rfl, ⟨by rw [pidCells_length], .inr ⟨g, cap, putCells id 0 (flatK encW 2 d') cur, by rw [sortL_length], hb, heap_put _ hg, by rw [sortL_length]; exact hnc, hcm, by simp [putCells, hcs], ?_⟩⟩, grownBy_put _⟩
    rw [sortL_length, ← hFs', take_put _ _ (by rw [hFs', hcs]; exact Nat.mul_le_mul_right _ hnc), hF']

theorem OwnP.but {w w' : World} {base r : Nat} {v : Value} {xs : List Pid} (h : OwnP w base v xs) (hb : But r w w') {α β : Type} {ke : α → Value} {ve : β → Value} {L : List (α × β)} (hM : MapIs w r ke ve L) : OwnP w' base v xs := by
  refine ⟨h.1, ?_⟩
  obtain ⟨es, cl, hm, _⟩ := hM
  rcases h.2 with hn | ⟨g, cap, cur, rfl, hbb, hgg, rest⟩
  · exact .inl hn
  · exact .inr ⟨g, cap, cur, rfl, hbb, (hb.block g (fun e => by rw [e, hm] at hgg; cases hgg)).trans hgg, rest⟩
theorem OwnP.alloc {w : World} {base : Nat} {v : Value} {xs : List Pid} (h : OwnP w base v xs) (o : Obj) : OwnP (w.alloc o) base v xs := h.ext ((Below.refl _ _).alloc (Nat.le_refl _) _)
theorem OwnP.ne_map {w : World} {base : Nat} {v : Value} {xs : List Pid} (h : OwnP w base v xs) {r : Nat} {es : Array MapEntry} {cl : Nat} (hm : w.heap[r]? = some (.map es cl)) : some r ≠ v.ownBlock := by
  rcases h.2 with ⟨rfl, _⟩ | ⟨g, cap, cur, rfl, hbb, hgg, rest⟩
  · simp [Value.ownBlock]
  · simp only [Value.ownBlock, ne_eq, Option.some.injEq]
    intro e; subst e; rw [hm] at hgg; cases hgg
theorem MapIs.grown {w w' : World} {r : Nat} {α β : Type} [DecidableEq α] {ke : α → Value} {ve : β → Value} {L : List (α × β)} (hM : MapIs w r ke ve L) {base : Nat} {v : Value} {xs : List Pid} (h : OwnP w base v xs) (hg : w.grownBy w' v.ownBlock) : MapIs w' r ke ve L := by
  refine hM.same (hg.block r hM.lt ?_)
  obtain ⟨es, cl, hm, _⟩ := hM
  exact h.ne_map hm

/-- some processes, each once, in their first places' order -/
def dedup (xs : List Pid) : List Pid := keys (unionL [] xs)
/-- Sort -/
def sortP (xs : List Pid) : List Pid := sortL (dedup xs)
theorem keys_add1_no {p : Pid} {L : List (Pid × Unit)} (h : (look p L).isSome = false) : keys (add1 p L) = keys L ++ [p] := by
  have : p ∉ keys L := by rw [← look_isSome, h]; simp
  rw [add1_of_not this]; simp [keys]

set_option maxRecDepth 100000 in
set_option maxHeartbeats 1600000 in
theorem sort_any (a : Option Addr) (c : Nat) (xs : List Pid) (w : World) (hn : xs.length ≤ 549755813888) (hrow : PidRow w a xs) (hok : ∀ p ∈ xs, ok p) :
   Calls Try.prog 160 #[.slice a xs.length c] w fun e w' => ∃ v, e = .returned v ∧ OwnP w' w.heap.size v (sortP xs) ∧ Below w.heap.size w w' := by
  have hmm := @run_makeMap Try.prog
  go_enter Try.func160, Try.ntmps160
  go_wp2
  go_loopw [4, 12] (fun v i wr => ∃ (k : Nat) (Lk : List (Pid × Unit)), k ≤ xs.length ∧ i = .int .i64 k ∧ Hid (unionL [] xs = unionL Lk (xs.drop k)) ∧ (keys Lk).length ≤ k ∧ (∀ p ∈ keys Lk, ok p) ∧ Below w.heap.size w wr ∧ MapIs wr w.heap.size pidV eU Lk ∧ OwnP wr w.heap.size v (keys Lk)) (fun _ i _ => xs.length - (intOf i).toNat)
  case atStart => exact ⟨0, [], Nat.zero_le _, rfl, rfl, Nat.le_refl _, by simp [keys], (Below.refl _ _).alloc (Nat.le_refl _) _, MapIs.made _, OwnP.nil _ _⟩
  case round =>
    obtain ⟨k, Lk, hk, rfl, hL, hlk, hokk, hb, hM, hown⟩ := hrel
    have hs0 := hb.size
    have hs1 := hM.lt
    by_cases hlt : k < xs.length
    · obtain ⟨b, off, x, y, rfl, hx, d1, d2⟩ := hrow.at hb rfl hlt
      have hL1 := unionL_drop (L := Lk) hlt hx
      have hxok : ok (x, y) := by rw [hx]; exact hok _ (List.getElem_mem _)
      have HL1 := hid hL1
      have HOK := hid hxok
      have HOKK := hid hokk
      clear hx hrow hL1 hxok hokk
      have hB1 : Below w.heap.size w (wr.alloc (.cells #[.int .u16 x, .int .u32 y] 26)) := hb.alloc hb.size _
      have hB2 : Below w.heap.size w ((wr.alloc (.cells #[.int .u16 x, .int .u32 y] 26)).alloc (.cells #[] 222)) := hB1.alloc hB1.size _
      have hs2 := hB2.size
      cases hs : (look (x, y) Lk).isSome
      · have HS := hid hs
        clear hs
        go_wp2_with (first
          | (at_lookup; refine wpList_lookup_is keyPid Try.underlying225 (.agg #[]) zero106 (hM.alloc _) (x, y) _ (look_unit _ _) HS rfl rfl rfl rfl ?_)
          | (at_mapUpdate; refine wpList_mapUpdate_is keyPid Try.underlying225 ((hM.alloc _).alloc _) (x, y) () rfl rfl rfl rfl rfl ?_; intro w2 hM2 hbut; have c0 : w2.cell? ⟨wr.heap.size, 0, none⟩ = some (.int .u16 x) := (hbut.cell (by simp; omega)).trans (by simp); have c1 : w2.cell? ⟨wr.heap.size, 1, none⟩ = some (.int .u32 y) := (hbut.cell (by simp; omega)).trans (by simp))
          | (at_builtin; go_loud (refine wpList_appendP (((hown.alloc _).alloc _).but hbut ((hM.alloc _).alloc _) |>.alloc _) (PidRow.one _ x y) ?cb ?cz rfl rfl rfl rfl ?_); rotate_right; intro v4 w4 hown4 hg4 hnil4))
        case cb => simp; omega
        case cz => have := hbut.size; simp at this; simp; omega
        have hsz2 := hbut.size
        simp at hsz2
        have hown2 : OwnP w2 w.heap.size u4 (keys Lk) := ((hown.alloc _).alloc _).but hbut ((hM.alloc _).alloc _)
        have hB4 : Below w.heap.size w w4 := ((hB2.trans (hbut.below (Nat.le_refl _))).alloc (by omega) _).grown hg4 (by simp; omega) (fun g hg => (World.ownsRow.lt hown g hg).1)
        have hM4 : MapIs w4 w.heap.size pidV eU (ins (x, y) () Lk) := (hM2.alloc _).grown (hown2.alloc _) hg4
        have hA : add1 (x, y) Lk = ins (x, y) () Lk := by unfold add1; rw [HS.out]; rfl
        have hK := keys_add1_no HS.out
        have HA := hid hA
        have HK := hid hK
        clear hA hK
        go_roundw
        case rel =>
          refine ⟨k + 1, ins (x, y) () Lk, by omega, by go_num, hL.out.trans (by rw [HL1.out, HA.out]), ?_, ?_, hB4, hM4, ?_⟩
          · rw [← HA.out, HK.out]; simp; omega
          · rw [← HA.out, HK.out]
            intro p hp
            rcases List.mem_append.1 hp with hp | hp
            · exact HOKK.out p hp
            · rw [List.mem_singleton.1 hp]; exact HOK.out
          · rw [← HA.out, HK.out]; exact hown4
        case measure => simp [intOf]; omega
      · have HS := hid hs
        clear hs
        go_wp2_with (first
          | (at_lookup; refine wpList_lookup_is keyPid Try.underlying225 (.agg #[]) zero106 (hM.alloc _) (x, y) _ (look_unit _ _) HS rfl rfl rfl rfl ?_))
        go_roundw
        case rel => exact ⟨k + 1, Lk, by omega, by go_num, hL.out.trans (by rw [HL1.out]; unfold add1; rw [HS.out]; rfl), by omega, HOKK.out, hB2, (hM.alloc _).alloc _, (hown.alloc _).alloc _⟩
        case measure => simp [intOf]; omega
    · have hkk : Hid (keys Lk = dedup xs) := by
        have := hL.out
        rw [List.drop_eq_nil_of_le (by omega)] at this
        unfold dedup
        rw [this]; rfl
      have hS := sortFunc_own hown hokk (by omega)
      have HS := hid hS
      clear hS
      go_wp2_with (go_at_call 209; refine HS.out.mono ?_; rintro e w3 ⟨rfl, hown3, hg3⟩)
      go_ret
      exact ⟨_, rfl, by unfold sortP; rw [← hkk.out]; exact hown3, hb.grown hg3 hb.size (fun g hg => (World.ownsRow.lt hown g hg).1)⟩
end Go.Proofs.Ytbpfhclcjedkcaa

namespace Go.Proofs.Ytbpfhclcjedkcaa
open Go.RowKit
open Go.ChangeMaps (setBlock)

/-- 'range' over the map in block r under way, its iterator in block t: L all, left what is still to come -/
def RangeIs {α β : Type} (w : World) (r t : Nat) (ke : α → Value) (ve : β → Value) (L left : List (α × β)) : Prop :=
  ∃ es clock since seen, w.heap[r]? = some (.map es clock) ∧ es.toList.map (fun e => (e.key, e.val)) = L.map (fun p => (ke p.1, ve p.2)) ∧ bornOk es clock ∧
    w.heap[t]? = some (.mapIter (some r) since seen clock) ∧ (∀ x ∈ es.toList, x.born < since) ∧ since ≤ clock ∧
    (es.toList.filter fun e => !seen.contains e.born).map (fun e => (e.key, e.val)) = left.map (fun p => (ke p.1, ve p.2))

section
set_option linter.unusedSectionVars false
variable {α β : Type} [DecidableEq α] {ke : α → Value} {ve : β → Value} {P : Program} {K : TypeId} {w : World} {r t : Nat} {L left : List (α × β)}

theorem RangeIs.map (h : RangeIs w r t ke ve L left) : MapIs w r ke ve L := by
  obtain ⟨es, clock, since, seen, h1, h2, h3, _⟩ := h
  exact ⟨es, clock, h1, h2, h3⟩
theorem RangeIs.lt (h : RangeIs w r t ke ve L left) : t < w.heap.size := by
  obtain ⟨es, clock, since, seen, _, _, _, h1, _⟩ := h
  exact (Array.getElem?_eq_some_iff.1 h1).1
theorem RangeIs.ne (h : RangeIs w r t ke ve L left) : t ≠ r := by
  obtain ⟨es, clock, since, seen, h0, _, _, h1, _⟩ := h
  intro e; subst e; rw [h0] at h1; cases h1
theorem RangeIs.same {w' : World} (h : RangeIs w r t ke ve L left) (h1 : w'.heap[r]? = w.heap[r]?) (h2 : w'.heap[t]? = w.heap[t]?) : RangeIs w' r t ke ve L left := by
  obtain ⟨es, clock, since, seen, a1, a2, a3, a4, a5⟩ := h
  exact ⟨es, clock, since, seen, h1.trans a1, a2, a3, h2.trans a4, a5⟩
theorem RangeIs.mut {F : Nat → Prop} {w' : World} (h : RangeIs w r t ke ve L left) (hm : Mut F w w') (hr : ¬ F r) (ht : ¬ F t) : RangeIs w' r t ke ve L left :=
  h.same (hm.block r h.map.lt hr) (hm.block t h.lt ht)
theorem RangeIs.ext {w' : World} (h : RangeIs w r t ke ve L left) (hb : Below w.heap.size w w') : RangeIs w' r t ke ve L left :=
  h.same (hb.block _ h.map.lt) (hb.block _ h.lt)

theorem MapIs.range (h : MapIs w r ke ve L) {ty K e : TypeId} (ht : P.underlying ty = some (.map K e)) :
    ∃ w', (Instr.range ty (.map (some r))).run P w = .ok (.pointer (some ⟨w.heap.size, 0, none⟩)) w' ∧ RangeIs w' r w.heap.size ke ve L L ∧ Below w.heap.size w w' := by
  have hlt := h.lt
  obtain ⟨es, clock, hb, he, hbn⟩ := h
  refine ⟨_, run_range_map w ty K e r es clock ht hb, ⟨es, clock, clock, #[], ((MapKept.heap_alloc w _).2 r hlt).trans hb, he, hbn, (MapKept.heap_alloc w _).1, hbn.2, Nat.le_refl _, ?_⟩, (Below.refl _ _).alloc (Nat.le_refl _) _⟩
  rw [List.filter_eq_self.2 (by simp)]; exact he

theorem filter_push (seen : Array Nat) (es : List MapEntry) (b : Nat) : (es.filter fun e => !(seen.push b).contains e.born) = (es.filter fun e => !seen.contains e.born).filter fun e => e.born != b := by
  rw [List.filter_filter]
  congr 1
  funext e
  by_cases hb : e.born = b <;> simp [Array.contains_push, bne, hb]
theorem filter_split {s u : List MapEntry} {e : MapEntry} (hn : ((s ++ e :: u).map (·.born)).Nodup) : (s ++ e :: u).filter (fun x => x.born != e.born) = s ++ u := by
  rw [List.map_append, List.map_cons, List.nodup_append] at hn
  obtain ⟨_, h2, h3⟩ := hn
  rw [List.nodup_cons] at h2
  have hs : s.filter (fun x => x.born != e.born) = s := List.filter_eq_self.2 fun x hx => by
    have := h3 x.born (List.mem_map_of_mem hx) e.born (by simp)
    simpa using this
  have hu : u.filter (fun x => x.born != e.born) = u := List.filter_eq_self.2 fun x hx => by
    have : x.born ≠ e.born := fun hq => h2.1 (hq ▸ List.mem_map_of_mem hx)
    simpa using this
  rw [List.filter_append, List.filter_cons, hs, hu]
  simp

/-- the step -/
theorem RangeIs.next (h : RangeIs w r t ke ve L left) (ty : TypeId) :
    (left = [] ∧ (Instr.next (.pointer (some ⟨t, 0, none⟩)) false ty).run P w = .ok (.tuple #[.bool false]) w) ∨
    ∃ (p : α × β) (s u : List (α × β)) (w' : World), left = s ++ p :: u ∧ (Instr.next (.pointer (some ⟨t, 0, none⟩)) false ty).run P w = .ok (.tuple #[.bool true, ke p.1, ve p.2]) w' ∧
      RangeIs w' r t ke ve L (s ++ u) ∧ But t w w' ∧ (Instr.entry (.pointer (some ⟨t, 0, none⟩))).run P w' = .ok (.tuple #[ke p.1, ve p.2]) w' := by
  have hne := h.ne
  obtain ⟨es, clock, since, seen, h1, h2, h3, h4, h5, h6, h7⟩ := h
  rcases run_next_at (P := P) w ty t r since clock seen es clock h4 h1 h5 h6 with ⟨h0, hrun⟩ | ⟨e, he, w1, hal, hrun⟩
  · refine .inl ⟨?_, hrun⟩
    have : (leftOf es seen).toList = [] := by rw [← Array.length_toList] at h0; exact List.length_eq_zero_iff.1 h0
    unfold leftOf at this
    rw [Array.toList_filter] at this
    rw [this] at h7
    exact List.map_eq_nil_iff.1 h7.symm
  · right
    unfold leftOf at he
    rw [Array.toList_filter] at he
    obtain ⟨s, u, hsu⟩ := List.append_of_mem he
    have hes : e ∈ es.toList := (List.mem_filter.1 he).1
    rw [hsu] at h7
    rw [List.map_append, List.map_cons] at h7
    obtain ⟨s', q', hl, hs', hq'⟩ := List.map_eq_append_iff.1 h7.symm
    obtain ⟨p, u', rfl, hp, hu'⟩ := List.map_eq_cons_iff.1 hq'
    have hk : e.key = ke p.1 := (congrArg Prod.fst hp).symm
    have hv : e.val = ve p.2 := (congrArg Prod.snd hp).symm
    rw [hk, hv] at hrun
    have hw1 : But t w w1 ∧ w1.heap = w.heap := by rcases hal with rfl | rfl <;> exact ⟨⟨rfl, rfl, rfl, rfl, fun _ _ => rfl⟩, rfl⟩
    have htlt : t < w1.heap.size := by rw [hw1.2]; exact (Array.getElem?_eq_some_iff.1 h4).1
    have hset : (setBlock w1 t (.mapIter (some r) since (seen.push e.born) clock)).heap[t]? = some (.mapIter (some r) since (seen.push e.born) clock) := by
      simp [setBlock, htlt]
    have hrr : (setBlock w1 t (.mapIter (some r) since (seen.push e.born) clock)).heap[r]? = some (.map es clock) := by
      rw [show (setBlock w1 t (.mapIter (some r) since (seen.push e.born) clock)).heap[r]? = w1.heap[r]? by simp [setBlock, hne], hw1.2, h1]
    refine ⟨p, s', u', _, hl, hrun, ⟨es, clock, since, seen.push e.born, hrr, h2, h3, hset, h5, h6, ?_⟩, ?_, ?_⟩
    · rw [filter_push, hsu, filter_split, List.map_append, List.map_append, hs', hu']
      have hn := h3.1
      exact List.Nodup.sublist (List.Sublist.map _ (by rw [← hsu]; exact List.filter_sublist)) hn
    · refine ⟨hw1.1.os, hw1.1.tape, hw1.1.output, by simp [setBlock, hw1.2], fun k hk => ?_⟩
      rw [show (setBlock w1 t (.mapIter (some r) since (seen.push e.born) clock)).heap[k]? = w1.heap[k]? by simp [setBlock, Ne.symm hk], hw1.2]
    · rw [← hk, ← hv]
      exact run_entry_at _ t r since seen es clock e hset hrr hes h3.1

theorem filter_modify {p : MapEntry → Bool} {f : MapEntry → MapEntry} : ∀ (l : List MapEntry) (j : Nat), (∀ x, l[j]? = some x → p x = false ∧ p (f x) = false) → (l.modify j f).filter p = l.filter p
  | [], j, _ => by simp
  | x :: l, 0, h => by
    obtain ⟨h1, h2⟩ := h x rfl
    simp [List.modify_zero_cons, List.filter_cons, h1, h2]
  | x :: l, j + 1, h => by
    rw [List.modify_succ_cons, List.filter_cons, List.filter_cons, filter_modify l j (fun y hy => h y (by simpa using hy))]

/-- a store at a key that is there and has been met -/
theorem RangeIs.update (h : RangeIs w r t ke ve L left) (kk : KeyOk P K ke) (hinj : ∀ x y, ke x = ke y → x = y) {ty e : TypeId} (ht : P.underlying ty = some (.map K e)) (x : α) (v : β) (hx : (look x L).isSome = true) (hl : ∀ p ∈ left, p.1 ≠ x) :
    ∃ w', (Instr.mapUpdate ty (.map (some r)) (ke x) (ve v)).run P w = .ok () w' ∧ RangeIs w' r t ke ve (ins x v L) left ∧ But r w w' := by
  have hne := h.ne
  obtain ⟨es, clock, since, seen, h1, h2, h3, h4, h5, h6, h7⟩ := h
  have hf := find_run (w := w) kk h2 x
  have hlk := lookI_look x L 0
  cases hq : lookI x L 0 with
  | none => rw [hq] at hlk; rw [← hlk] at hx; simp at hx
  | some q =>
    obtain ⟨j, u⟩ := q
    have hlt := lookI_lt hq
    obtain ⟨_, _, ⟨u', hu'⟩, hins⟩ := lookI_some hq
    simp only [Nat.sub_zero] at hu' hins hlt
    rw [hq] at hf
    have hj : ∃ e0, es[j]? = some e0 ∧ e0.key = ke x := by
      have : (es.toList.map (fun e => (e.key, e.val)))[j]? = some (ke x, ve u') := by rw [h2, List.getElem?_map, hu']; rfl
      rw [List.getElem?_map] at this
      cases hej : es.toList[j]? with
      | none => rw [hej] at this; simp at this
      | some e0 =>
        rw [hej] at this
        simp at this
        exact ⟨e0, by simpa using hej, this.1⟩
    obtain ⟨e0, hej, hek⟩ := hj
    obtain ⟨w', hrun, hM, hbut⟩ := MapIs.update (L := L) ⟨es, clock, h1, h2, h3⟩ kk ht x v
    have hw' : w' = { w with heap := w.heap.setIfInBounds r (.map (es.modify j fun e => { e with key := ke x, val := ve v }) clock) } := by
      have : (Instr.mapUpdate ty (.map (some r)) (ke x) (ve v)).run P w = .ok () { w with heap := w.heap.setIfInBounds r (.map (es.modify j fun e => { e with key := ke x, val := ve v }) clock) } := by
        simp [Instr.mapUpdate, run_underlying ht, MapKept.run_getObj_map h1, kk.check, hf, hej, hek, Instr.keyThatStays, kk.same, MapKept.run_setObj_map _ h1, Result.andThen]
      rw [this] at hrun
      cases hrun
      rfl
    refine ⟨w', hrun, ?_, hbut⟩
    have hmem : e0 ∈ es.toList := by
      have : es.toList[j]? = some e0 := by simpa using hej
      exact List.mem_of_getElem? this
    have hseen : seen.contains e0.born = true := by
      cases hc : seen.contains e0.born
      · exfalso
        have : (e0.key, e0.val) ∈ left.map (fun p => (ke p.1, ve p.2)) := by
          rw [← h7]
          exact List.mem_map_of_mem (f := fun e : MapEntry => (e.key, e.val)) (List.mem_filter.2 ⟨hmem, by rw [hc]; rfl⟩)
        obtain ⟨p, hp, hpe⟩ := List.mem_map.1 this
        exact hl p hp (hinj _ _ ((congrArg Prod.fst hpe).trans hek))
      · rfl
    have hrlt : r < w.heap.size := (Array.getElem?_eq_some_iff.1 h1).1
    obtain ⟨es', clock', g1, g2, g3⟩ := hM
    have hes : es' = (es.modify j fun e => { e with key := ke x, val := ve v }) ∧ clock' = clock := by
      rw [hw'] at g1
      simp [hrlt] at g1
      exact ⟨g1.1.symm, g1.2.symm⟩
    obtain ⟨rfl, rfl⟩ := hes
    refine ⟨_, _, since, seen, g1, g2, g3, (hbut.block t hne).trans h4, ?_, h6, ?_⟩
    · intro y hy
      simp only [Array.toList_modify] at hy
      obtain ⟨i, hi⟩ := List.mem_iff_getElem?.1 hy
      rw [List.getElem?_modify] at hi
      cases hyi : es.toList[i]? with
      | none => rw [hyi] at hi; simp at hi
      | some z =>
        rw [hyi] at hi
        have hz := h5 z (List.mem_of_getElem? hyi)
        have : y.born = z.born := by
          simp at hi
          rw [← hi]
          split <;> rfl
        rw [this]; exact hz
    · rw [Array.toList_modify, filter_modify, h7]
      intro y hy
      have : y = e0 := by
        have h8 : es.toList[j]? = some e0 := by simpa using hej
        rw [hy] at h8; exact Option.some.inj h8
      subst this
      exact ⟨by simp only [hseen]; rfl, by simp only [hseen]; rfl⟩
end

section
variable {α β : Type} [DecidableEq α] {ke : α → Value} {ve : β → Value} {P : Program} {w : World} {ops : Array Oper} {rest : List Oper} {o : Oper} {a : Act} {Q : Exit → Act → World → Prop} {r t : Nat} {L left : List (α × β)}
theorem wpList_range_is (hM : MapIs w r ke ve L) {ty K e : TypeId} (ht : P.underlying ty = some (.map K e)) {m : Operand} (hg : o.guard = none) (hop : o.op = Op.range ty m) (hm : a.eval m = .map (some r))
    (hK : ∀ w', RangeIs w' r w.heap.size ke ve L L → Below w.heap.size w w' → wpList P ops Q rest (a.put o.dst (.pointer (some ⟨w.heap.size, 0, none⟩))) w') : wpList P ops Q (o :: rest) a w := by
  refine wpList_plain hg fun K' hK' => ?_
  obtain ⟨w', hrun, r1, r2⟩ := hM.range ht
  unfold Oper.wp
  simp [execOp, hop, hm, hrun, Result.andThen]
  exact hK' _ _ (hK w' r1 r2)
theorem wpList_next_is (h : RangeIs w r t ke ve L left) {it : Operand} (hg : o.guard = none) (hop : o.op = Op.next it false) (hit : a.eval it = .pointer (some ⟨t, 0, none⟩))
    (hDone : Hid (left = []) → wpList P ops Q rest (a.put o.dst (.tuple #[.bool false])) w)
    (hMore : ∀ (p : α × β) (s u : List (α × β)) (w' : World), Hid (left = s ++ p :: u) → RangeIs w' r t ke ve L (s ++ u) → But t w w' → (Instr.entry (.pointer (some ⟨t, 0, none⟩))).run P w' = .ok (.tuple #[ke p.1, ve p.2]) w' →
      wpList P ops Q rest (a.put o.dst (.tuple #[.bool true, ke p.1, ve p.2])) w') : wpList P ops Q (o :: rest) a w := by
  refine wpList_plain hg fun K' hK' => ?_
  unfold Oper.wp
  rcases h.next (P := P) o.type with ⟨hl, hrun⟩ | ⟨p, s, u, w', hl, hrun, hR, hB, hE⟩
  · simp [execOp, hop, hit, hrun, Result.andThen]
    exact hK' _ _ (hDone hl)
  · simp [execOp, hop, hit, hrun, Result.andThen]
    exact hK' _ _ (hMore p s u w' hl hR hB hE)
end
end Go.Proofs.Ytbpfhclcjedkcaa


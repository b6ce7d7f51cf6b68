import Derived.Test.YtjjahefedpfnaaaT1
import Derived.Test.YtjjahefedpfnaaaPA
namespace Go.Proofs.Ytjjahefedpfnaaa
open Go.RowKit
open Go.Sort (grow grow_grow grow_empty alloc_eq_grow putRow putCells HoldsK Holds flatK SWO heap_grow_old mapBlock onCells)

abbrev WP : Type := { p : Pid // ok p }
instance : Inhabited WP := ⟨⟨(0, 0), by unfold ok; simp⟩⟩
def encW (x : WP) : List Value := [.int .u16 x.val.1, .int .u32 x.val.2]
def cmpW (x y : WP) : Int := cmpP x.val y.val
theorem ltW (x y : WP) : ltOf cmpW x y = ahead x.val y.val := by
  unfold ltOf cmpW cmpP
  cases ahead x.val y.val <;> simp
theorem swoW : SWO (ltOf cmpW) where
  irrefl x := by rw [ltW]; simp [ahead]
  trans x y z h1 h2 := by rw [ltW] at *; simp [ahead] at *; omega
  ntrans x y z h1 h2 := by rw [ltW] at *; simp [ahead] at *; omega
theorem numOf_inj {p q : Pid} (hp : ok p) (hq : ok q) (h : numOf p = numOf q) : p = q := by
  obtain ⟨a, b⟩ := p
  obtain ⟨c, d⟩ := q
  unfold numOf at h
  obtain ⟨h1, h2, h3, h4⟩ := hp
  obtain ⟨g1, g2, g3, g4⟩ := hq
  simp only at *
  have e1 : a = c := by omega
  have e2 : b = d := by omega
  rw [e1, e2]
theorem totW (x y : WP) (h1 : ltOf cmpW x y = false) (h2 : ltOf cmpW y x = false) : x = y := by
  rw [ltW] at h1 h2
  simp [ahead] at h1 h2
  exact Subtype.ext (numOf_inj x.2 y.2 (by omega))

theorem flat_cells (d : Array WP) : (flatK encW 2 d).toList = pidCells (d.toList.map (·.val)) := by
  apply List.ext_getElem?
  intro t
  by_cases ht : t < d.size * 2
  · have h1 : t / 2 < d.size := by omega
    have g := Sort.get_flatK encW 2 d t ht
    have hl : (flatK encW 2 d).toList[t]? = some (flatK encW 2 d)[t]! := by
      rw [getElem!_pos (flatK encW 2 d) t (by simpa using ht)]
      simp [ht]
    rw [hl, g]
    obtain ⟨c1, c2⟩ := pidCells_get (d.toList.map (·.val)) (t / 2) (by simpa using h1)
    have hd : d[t / 2]! = d[t / 2] := getElem!_pos d _ h1
    rcases Nat.mod_two_eq_zero_or_one t with hm | hm
    · rw [show t / 2 * 2 = t by omega] at c1
      rw [c1, hm, hd]; simp [encW]
    · rw [show t / 2 * 2 + 1 = t by omega] at c2
      rw [c2, hm, hd]; simp [encW]
  · rw [List.getElem?_eq_none (by simp; omega), List.getElem?_eq_none (by rw [pidCells_length]; simp; omega)]

theorem heap_put {w : World} {g n : Nat} {os : Array Obj} {cur : Array Value} {e : TypeId} {fr : Nat × Nat} (F : Array Value) (hb : w.heap[g]? = some (.cells cur e fr)) :
    (grow (putRow id (Sort.ahead w n) g 0 F) os).heap[g]? = some (.cells (putCells id 0 F cur) e fr) := by
  have hg : g < w.heap.size := (Array.getElem?_eq_some_iff.1 hb).1
  rw [heap_grow_old _ _ (by simpa using hg)]
  simp [putRow, mapBlock, Sort.ahead, Array.getElem?_modify, hb, onCells]
theorem grownBy_put {w : World} {g n : Nat} {os : Array Obj} (F : Array Value) : w.grownBy (grow (putRow id (Sort.ahead w n) g 0 F) os) (some g) := by
  refine ⟨rfl, rfl, rfl, by simp, fun k hk hne => ?_⟩
  rw [heap_grow_old _ _ (by simpa using hk)]
  have : g ≠ k := fun e => hne (by rw [e])
  simp [putRow, mapBlock, Sort.ahead, Array.getElem?_modify, this]
theorem take_put (cur F : Array Value) (h : F.size ≤ cur.size) : (putCells id 0 F cur).toList.take F.size = F.toList := by
  apply List.ext_getElem?
  intro j
  by_cases hj : j < F.size
  · rw [List.getElem?_take_of_lt hj, Array.getElem?_toList]
    simp [putCells, hj, show j < cur.size by omega]
  · rw [List.getElem?_take_eq_none (by omega), List.getElem?_eq_none (by simp; omega)]
theorem holds_put {w : World} {g : Nat} {cur F : Array Value} {e : TypeId} (hb : w.heap[g]? = some (.cells cur e (0, 0))) (ht : cur.toList.take F.size = F.toList) : Holds id w g 0 F := by
  intro j hj
  refine ⟨?_, by simp [World.frozen?, hb]⟩
  have h1 : (cur.toList.take F.size)[j]? = F.toList[j]? := by rw [ht]
  rw [List.getElem?_take_of_lt hj] at h1
  simp only [World.cell?, hb, Nat.zero_add, Option.isSome_none, Bool.false_eq_true, if_false]
  rw [← Array.getElem?_toList, h1]
  simp [hj]

/-- processes, sorted (each once, if they are so) -/
def sortL (ps : List Pid) : List Pid := ps.mergeSort fun x y => !(ahead y x)
theorem sortL_length (ps : List Pid) : (sortL ps).length = ps.length := List.length_mergeSort _
theorem cmpLays (blk off size : Nat) (w : World) : CmpLays Try.prog 94 #[] encW 2 cmpW blk off size w :=
  fun _ _ _ _ x y => cmp_any x.val.1 x.val.2 y.val.1 y.val.2 _ x.2 y.2
theorem sortFunc_own {w : World} {base : Nat} {v : Value} {ps : List Pid} (hown : OwnP w base v ps) (hok : ∀ p ∈ ps, ok p) (hn : ps.length < 4611686018427387904) :
    Calls Try.prog 93 #[v, .func (.func 94) #[] #[]] w fun e w' => e = .returned (.tuple #[]) ∧ OwnP w' base v (sortL ps) ∧ w.grownBy w' v.ownBlock := by
  have eg : ∀ args w, (callFunc 94 args).run Try.prog w = .ok (.enter 94 args) w := enters_of Try.func94 (by kernel_rfl) rfl
  rcases hown.2 with ⟨rfl, h0⟩ | ⟨g, cap, cur, rfl, hb, hg, hnc, hcm, hcs, htake⟩
  · have hp : ps = [] := List.length_eq_zero_iff.1 h0
    subst hp
    have hcon := AnyF.slices_SortFunc_none Try.sortPid none 0 (.func (.func 94) #[] #[]) w
    change Calls Try.prog 93 _ _ _ at hcon
    refine hcon.mono ?_
    rintro e w' ⟨rfl, rfl⟩
    exact ⟨rfl, by rw [show sortL [] = [] by simp [sortL]]; exact OwnP.nil _ _, ⟨rfl, rfl, rfl, Nat.le_refl _, fun _ _ _ => rfl⟩⟩
  · obtain ⟨d, hd, hds⟩ : ∃ d : Array WP, d.toList.map (·.val) = ps ∧ d.size = ps.length := by
      refine ⟨(ps.pmap Subtype.mk hok).toArray, ?_, by simp⟩
      simp [List.map_pmap]
    have hF : (flatK encW 2 d).toList = pidCells ps := by rw [flat_cells, hd]
    have hFs : (flatK encW 2 d).size = ps.length * 2 := by simp [hds]
    have hH : HoldsK encW 2 w g 0 d := holds_put hg (by rw [hFs, hF]; exact htake)
    have hlt : g < w.heap.size := (Array.getElem?_eq_some_iff.1 hg).1
    have hcon := AnyQ.slices_SortFunc_total Try.sortPid 2 Try.isAgg32 Try.sizeOf32 encW (fun _ => rfl) (fun x v hv => by simp [encW] at hv; rcases hv with rfl | rfl <;> rfl) cmpW swoW 94 #[] g 0 cap d w eg (cmpLays g 0 d.size w) hH hlt (by rw [hds]; exact hn) totW
    change Calls Try.prog 93 _ _ _ at hcon
    rw [hds] at hcon
    refine hcon.mono ?_
    rintro e w' ⟨rfl, n, os, rfl⟩
    obtain ⟨d', hd'⟩ : ∃ d' : Array WP, d' = (d.toList.mergeSort fun x y => !(ltOf cmpW) y x).toArray := ⟨_, rfl⟩
    rw [← hd']
    have hs' : d'.toList.map (·.val) = sortL ps := by
      rw [hd', ← hd]
      unfold sortL
      rw [List.map_mergeSort]
      intro a _ b _
      rw [ltW]
    have hsz : d'.size = ps.length := by rw [hd']; simp [List.length_mergeSort, hds]
    have hF' : (flatK encW 2 d').toList = pidCells (sortL ps) := by rw [flat_cells, hs']
    have hFs' : (flatK encW 2 d').size = ps.length * 2 := by simp [hsz]
    refine ⟨rfl, ⟨by rw [pidCells_length], .inr ⟨g, cap, putCells id 0 (flatK encW 2 d') cur, by rw [sortL_length], hb, heap_put _ hg, by rw [sortL_length]; exact hnc, hcm, by simp [putCells, hcs], ?_⟩⟩, grownBy_put _⟩
    rw [sortL_length, ← hFs', take_put _ _ (by rw [hFs', hcs]; exact Nat.mul_le_mul_right _ hnc), hF']

theorem OwnP.but {w w' : World} {base r : Nat} {v : Value} {xs : List Pid} (h : OwnP w base v xs) (hb : But r w w') {α β : Type} {ke : α → Value} {ve : β → Value} {L : List (α × β)} (hM : MapIs w r ke ve L) : OwnP w' base v xs := by
  refine ⟨h.1, ?_⟩
  obtain ⟨es, cl, hm, _⟩ := hM
  rcases h.2 with hn | ⟨g, cap, cur, rfl, hbb, hgg, rest⟩
  · exact .inl hn
  · exact .inr ⟨g, cap, cur, rfl, hbb, (hb.block g (fun e => by rw [e, hm] at hgg; cases hgg)).trans hgg, rest⟩
theorem OwnP.alloc {w : World} {base : Nat} {v : Value} {xs : List Pid} (h : OwnP w base v xs) (o : Obj) : OwnP (w.alloc o) base v xs := h.ext ((Below.refl _ _).alloc (Nat.le_refl _) _)
theorem OwnP.ne_map {w : World} {base : Nat} {v : Value} {xs : List Pid} (h : OwnP w base v xs) {r : Nat} {es : Array MapEntry} {cl : Nat} (hm : w.heap[r]? = some (.map es cl)) : some r ≠ v.ownBlock := by
  rcases h.2 with ⟨rfl, _⟩ | ⟨g, cap, cur, rfl, hbb, hgg, rest⟩
  · simp [Value.ownBlock]
  · simp only [Value.ownBlock, ne_eq, Option.some.injEq]
    intro e; subst e; rw [hm] at hgg; cases hgg
theorem MapIs.grown {w w' : World} {r : Nat} {α β : Type} [DecidableEq α] {ke : α → Value} {ve : β → Value} {L : List (α × β)} (hM : MapIs w r ke ve L) {base : Nat} {v : Value} {xs : List Pid} (h : OwnP w base v xs) (hg : w.grownBy w' v.ownBlock) : MapIs w' r ke ve L := by
  refine hM.same (hg.block r hM.lt ?_)
  obtain ⟨es, cl, hm, _⟩ := hM
  exact h.ne_map hm

/-- some processes, each once, in their first places' order -/
def dedup (xs : List Pid) : List Pid := keys (unionL [] xs)
/-- Sort -/
def sortP (xs : List Pid) : List Pid := sortL (dedup xs)
theorem keys_add1_no {p : Pid} {L : List (Pid × Unit)} (h : (look p L).isSome = false) : keys (add1 p L) = keys L ++ [p] := by
  have : p ∉ keys L := by rw [← look_isSome, h]; simp
  rw [add1_of_not this]; simp [keys]

set_option maxRecDepth 100000 in
set_option maxHeartbeats 1600000 in
theorem sort_any (a : Option Addr) (c : Nat) (xs : List Pid) (w : World) (hn : xs.length ≤ 549755813888) (hrow : PidRow w a xs) (hok : ∀ p ∈ xs, ok p) :
   Calls Try.prog 68 #[.slice a xs.length c] w fun e w' => ∃ v, e = .returned v ∧ OwnP w' w.heap.size v (sortP xs) ∧ Below w.heap.size w w' := by
  have hmm := @run_makeMap Try.prog
  go_enter Try.func68, Try.ntmps68
  go_wp2
  go_loopw [4, 12] (fun v i wr => ∃ (k : Nat) (Lk : List (Pid × Unit)), k ≤ xs.length ∧ i = .int .i64 k ∧ Hid (unionL [] xs = unionL Lk (xs.drop k)) ∧ (keys Lk).length ≤ k ∧ (∀ p ∈ keys Lk, ok p) ∧ Below w.heap.size w wr ∧ MapIs wr w.heap.size pidV eU Lk ∧ OwnP wr w.heap.size v (keys Lk)) (fun _ i _ => xs.length - (intOf i).toNat)
  case atStart => exact ⟨0, [], Nat.zero_le _, rfl, rfl, Nat.le_refl _, by simp [keys], (Below.refl _ _).alloc (Nat.le_refl _) _, MapIs.made _, OwnP.nil _ _⟩
  case round =>
    obtain ⟨k, Lk, hk, rfl, hL, hlk, hokk, hb, hM, hown⟩ := hrel
    have hs0 := hb.size
    have hs1 := hM.lt
    by_cases hlt : k < xs.length
    · obtain ⟨b, off, x, y, rfl, hx, d1, d2⟩ := hrow.at hb rfl hlt
      have hL1 := unionL_drop (L := Lk) hlt hx
      have hxok : ok (x, y) := by rw [hx]; exact hok _ (List.getElem_mem _)
      have HL1 := hid hL1
      have HOK := hid hxok
      have HOKK := hid hokk
      clear hx hrow hL1 hxok hokk
      have hB1 : Below w.heap.size w (wr.alloc (.cells #[.int .u16 x, .int .u32 y] 32)) := hb.alloc hb.size _
      have hB2 : Below w.heap.size w ((wr.alloc (.cells #[.int .u16 x, .int .u32 y] 32)).alloc (.cells #[] 95)) := hB1.alloc hB1.size _
      have hs2 := hB2.size
      cases hs : (look (x, y) Lk).isSome
      · have HS := hid hs
        clear hs
        go_wp2_with (first
          | (at_lookup; refine wpList_lookup_is keyPid Try.underlying91 (.agg #[]) zero106 (hM.alloc _) (x, y) _ (look_unit _ _) HS rfl rfl rfl rfl ?_)
          | (at_mapUpdate; refine wpList_mapUpdate_is keyPid Try.underlying91 ((hM.alloc _).alloc _) (x, y) () rfl rfl rfl rfl rfl ?_; intro w2 hM2 hbut; have c0 : w2.cell? ⟨wr.heap.size, 0, none⟩ = some (.int .u16 x) := (hbut.cell (by simp; omega)).trans (by simp); have c1 : w2.cell? ⟨wr.heap.size, 1, none⟩ = some (.int .u32 y) := (hbut.cell (by simp; omega)).trans (by simp))
          | (at_builtin; go_loud (refine wpList_appendP (((hown.alloc _).alloc _).but hbut ((hM.alloc _).alloc _) |>.alloc _) (PidRow.one _ x y) ?cb ?cz rfl rfl rfl rfl ?_); rotate_right; intro v4 w4 hown4 hg4 hnil4))
        case cb => simp; omega
        case cz => have := hbut.size; simp at this; simp; omega
        have hsz2 := hbut.size
        simp at hsz2
        have hown2 : OwnP w2 w.heap.size u4 (keys Lk) := ((hown.alloc _).alloc _).but hbut ((hM.alloc _).alloc _)
        have hB4 : Below w.heap.size w w4 := ((hB2.trans (hbut.below (Nat.le_refl _))).alloc (by omega) _).grown hg4 (by simp; omega) (fun g hg => (World.ownsRow.lt hown g hg).1)
        have hM4 : MapIs w4 w.heap.size pidV eU (ins (x, y) () Lk) := (hM2.alloc _).grown (hown2.alloc _) hg4
        have hA : add1 (x, y) Lk = ins (x, y) () Lk := by unfold add1; rw [HS.out]; rfl
        have hK := keys_add1_no HS.out
        have HA := hid hA
        have HK := hid hK
        clear hA hK
        go_roundw
        case rel =>
          refine ⟨k + 1, ins (x, y) () Lk, by omega, by go_num, hL.out.trans (by rw [HL1.out, HA.out]), ?_, ?_, hB4, hM4, ?_⟩
          · rw [← HA.out, HK.out]; simp; omega
          · rw [← HA.out, HK.out]
            intro p hp
            rcases List.mem_append.1 hp with hp | hp
            · exact HOKK.out p hp
            · rw [List.mem_singleton.1 hp]; exact HOK.out
          · rw [← HA.out, HK.out]; exact hown4
        case measure => simp [intOf]; omega
      · have HS := hid hs
        clear hs
        go_wp2_with (first
          | (at_lookup; refine wpList_lookup_is keyPid Try.underlying91 (.agg #[]) zero106 (hM.alloc _) (x, y) _ (look_unit _ _) HS rfl rfl rfl rfl ?_))
        go_roundw
        case rel => exact ⟨k + 1, Lk, by omega, by go_num, hL.out.trans (by rw [HL1.out]; unfold add1; rw [HS.out]; rfl), by omega, HOKK.out, hB2, (hM.alloc _).alloc _, (hown.alloc _).alloc _⟩
        case measure => simp [intOf]; omega
    · have hkk : Hid (keys Lk = dedup xs) := by
        have := hL.out
        rw [List.drop_eq_nil_of_le (by omega)] at this
        unfold dedup
        rw [this]; rfl
      have hS := sortFunc_own hown hokk (by omega)
      have HS := hid hS
      clear hS
      go_wp2_with (go_at_call 93; refine HS.out.mono ?_; rintro e w3 ⟨rfl, hown3, hg3⟩)
      go_ret
      exact ⟨_, rfl, by unfold sortP; rw [← hkk.out]; exact hown3, hb.grown hg3 hb.size (fun g hg => (World.ownsRow.lt hown g hg).1)⟩
end Go.Proofs.Ytjjahefedpfnaaa

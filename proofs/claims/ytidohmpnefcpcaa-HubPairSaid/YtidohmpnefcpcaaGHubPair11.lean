/- Parts of the proof: KM KQ KO KP. -/
import Derived.Lib.SmallJoins
import Derived.Deep.Slices
import Derived.Deep.Strs
import Derived.SizedLaws
import Derived.ProofKit
import Derived.OpenShut
import Derived.Test.YtidohmpnefcpcaaKL
namespace Go.Proofs.Ytidohmpnefcpcaa
open Go.RowKit
/-! ### two hubs side by side; the document's example -/
theorem RowK.one {w : World} {k b c : Nat} {x : List Value} (hb : b < w.heap.size) (h : ∀ j u, x[j]? = some u → w.cell? ⟨b, j, none⟩ = some u) : RowK w k (.slice (some ⟨b, 0, none⟩) 1 c) [x] :=
  ⟨⟨_, _, rfl⟩, fun i y hi => by
    have h0 : i = 0 := by have := (List.getElem?_eq_some_iff.1 hi).1; simpa using this
    subst h0
    simp at hi; subst hi
    exact ⟨b, c, rfl, hb, fun j u hj => by rw [Nat.zero_mul, Nat.zero_add]; exact h j u hj⟩⟩
theorem ElsAt.one {w : World} {N : Nat → Prop} {q : List Value} {u : Value} {bs : List Nat} (hu : ItemAt w N u bs) : ElsAt w N [q ++ [u]] [(q, bs)] := (ElsAt.nil w N).snoc hu
section
variable {w w' : World} {N N' : Nat → Prop} {h r hb rb : Nat} {sf sb : Pid} {L L' Lb : List HubX}
/-- a hub was called, the other one stays -/
theorem HubR.beside (A : HubR w w' N N' h r sf L L') (H : HubIs w N h r sf L) (B : HubIs w N hb rb sb Lb) (dis : ∀ b, fpH hb rb Lb b → ¬ fpH h r L b) : HubIs w' N' hb rb sb Lb ∧ ∀ b, fpH hb rb Lb b → ¬ fpH h r L' b :=
  ⟨(B.less (N' := N') (fun b e => A.up b (B.fp b e)) A.nw).mut A.mt (fun b _ e => A.up b (H.fp b e)) dis, fun b e e2 => by
    rcases A.fq b e2 with e3 | e3
    · exact dis b e e3
    · have := B.fplt b e; omega⟩
/-- a row that stands in none of the blocks that hubs write -/
structure RowN (w : World) (N : Nat → Prop) (k : Nat) (v : Value) (xs : List (List Value)) (ps : List (List Value × List Nat)) : Prop where
  row : RowK w k v xs
  els : ElsAt w (fun b => N b ∨ v.ownBlock = some b) xs ps
  bl : ∀ g, v.ownBlock = some g → g < w.heap.size ∧ ¬ N g
theorem RowN.step {k : Nat} {v : Value} {xs : List (List Value)} {ps : List (List Value × List Nat)} (R : RowN w N k v xs ps) (A : HubR w w' N N' h r sf L L') (H : HubIs w N h r sf L) : RowN w' N' k v xs ps :=
  ⟨R.row.mut A.mt fun g e e2 => (R.bl g e).2 (H.fp g e2),
   (R.els.grow (N' := fun b => N' b ∨ v.ownBlock = some b) fun b e => by
     rcases e with e | e
     · exact (A.nw b e).elim (fun e => .inl (.inl e)) .inr
     · exact .inl (.inr e)).mut A.mt fun b _ e => .inl (A.up b (H.fp b e)),
   fun g e => ⟨Nat.lt_of_lt_of_le (R.bl g e).1 A.mt.size, fun e2 => by
     rcases A.nw g e2 with e3 | e3
     · exact (R.bl g e).2 e3
     · have := (R.bl g e).1; omega⟩⟩
theorem RowN.ext {k : Nat} {v : Value} {xs : List (List Value)} {ps : List (List Value × List Nat)} (R : RowN w N k v xs ps) (hb : Below w.heap.size w w') : RowN w' N k v xs ps :=
  ⟨R.row.ext hb, R.els.mut (Mut.of_below (F := fun _ => False) hb) fun _ _ e => e.elim, fun g e => ⟨Nat.lt_of_lt_of_le (R.bl g e).1 hb.size, (R.bl g e).2⟩⟩
theorem OutR.rowN {pk : List PackD} {v : Value} {xs : List (List Value)} (R : OutR w w' N h r sf L L' pk v xs) (hN : ∀ b, N b → b < w.heap.size) : RowN w' N 7 v xs (pk.map packC) :=
  ⟨R.row.rowK, R.els, fun g e => ⟨(R.row.blk e).2, fun e2 => by have := (R.row.blk e).1; have := hN g e2; omega⟩⟩
theorem ArrR.rowN {fr : Pid} {ls : List (List Nat)} {v : Value} {xs : List (List Value)} (R : ArrR w w' N N' h r sf L L' fr ls v xs) : RowN w' N' 3 v xs (ls.map (gotC fr)) :=
  ⟨R.row.rowK, R.els, fun g e => ⟨(R.row.blk e).2, R.nv g e⟩⟩
/-- a packet out of a row -/
theorem RowN.pack {pk : List PackD} {v : Value} {xs : List (List Value)} (R : RowN w N 7 v xs (pk.map packC)) {i : Nat} {P : PackD} (hi : pk[i]? = some P) :
    ∃ g c a d, v = .slice (some ⟨g, 0, none⟩) pk.length c ∧ g < w.heap.size ∧ ¬ N g ∧ (∀ j u, [Value.int .i64 P.kind, .int .u16 P.fr.1, .int .u32 P.fr.2, .int .u16 P.dst.1, .int .u32 P.dst.2, .int .u64 P.seq, .slice a P.body.length d][j]? = some u → w.cell? ⟨g, i * 7 + j, none⟩ = some u) ∧
      ByteRow w a P.body ∧ (∀ x ∈ P.body, x < 256) ∧ ∀ b off, a = some ⟨b, off, none⟩ → ¬ N b := by
  have hlt := (List.getElem?_eq_some_iff.1 hi).1
  have hge : pk[i] = P := (List.getElem?_eq_some_iff.1 hi).2
  obtain ⟨u, q1, a, d, e, b1, b2, b3⟩ := R.els.2 i (by rw [List.length_map]; exact hlt)
  rw [List.getElem_map, hge] at q1 e b1 b2
  subst e
  obtain ⟨g, c, e1, e2, e3⟩ := R.row.atk i _ q1
  have hl := R.els.1
  rw [List.length_map] at hl
  rw [hl] at e1
  exact ⟨g, c, a, d, e1, e2, (R.bl g (by rw [e1]; rfl)).2, e3, b1, b2, fun b off ha hn => (b3 b off ha).2 (.inl hn)⟩
theorem RowN.got {fr : Pid} {ls : List (List Nat)} {v : Value} {xs : List (List Value)} (R : RowN w N 3 v xs (ls.map (gotC fr))) {i : Nat} {bs : List Nat} (hi : ls[i]? = some bs) :
    ∃ g c a d, v = .slice (some ⟨g, 0, none⟩) ls.length c ∧ g < w.heap.size ∧ (∀ j u, [Value.int .u16 fr.1, .int .u32 fr.2, .slice a bs.length d][j]? = some u → w.cell? ⟨g, i * 3 + j, none⟩ = some u) ∧ ByteRow w a bs ∧ (∀ x ∈ bs, x < 256) := by
  have hlt := (List.getElem?_eq_some_iff.1 hi).1
  have hge : ls[i] = bs := (List.getElem?_eq_some_iff.1 hi).2
  obtain ⟨u, q1, a, d, e, b1, b2, b3⟩ := R.els.2 i (by rw [List.length_map]; exact hlt)
  rw [List.getElem_map, hge] at q1 e b1 b2
  subst e
  obtain ⟨g, c, e1, e2, e3⟩ := R.row.atk i _ q1
  have hl := R.els.1
  rw [List.length_map] at hl
  rw [hl] at e1
  exact ⟨g, c, a, d, e1, e2, e3, b1, b2⟩
theorem hub_fit {B : Nat} (hD : ∀ y ∈ hubD L, LFit B y.2) : ∀ x ∈ L, LFit B x.d := fun x hx => hD (x.p, x.d) (List.mem_map.2 ⟨x, hx, rfl⟩)
end
theorem results_cellP {P : Program} {fn : Func} {p : Tmp} {ty : TypeId} (h : fn.results = #[.cell p ty]) (tmps : Array Value) (w : World) (b o : Nat) (cs : List Value) (d : TypeDesc)
    (hp : tmps.getD p undef = .pointer (some ⟨b, o, none⟩)) (hc : w.rangeAt b o cs)
    (hu : P.underlying ty = some d) (hd : d.isRow = true) (hi : (P.info? ty).map (·.size) = some cs.length) :
    (results fn tmps).run P w = .ok (.agg cs.toArray) w := by
  have hp' : tmps[p]?.getD undef = .pointer (some ⟨b, o, none⟩) := by simpa using hp
  simp [results, h, hp', asAddr, run_loadVar_mid w b o ty cs d hc hu hd hi]
theorem infoPidS : (Try.prog.info? 30).map (·.size) = some 2 := by kernel_rfl
theorem one_any (w : World) : Calls Try.prog 8 #[] w fun e w' => e = .returned (.agg #[.int .u16 1, .int .u32 1]) ∧ Below w.heap.size w w' := by
  go_enter Try.func8, Try.ntmps8
  go_wp2_with fail
  refine bodyPost_ret (v := .agg ([.int .u16 1, .int .u32 1] : List Value).toArray) (results_cellP (p := 0) (ty := 30) rfl _ _ w.heap.size 0 [.int .u16 1, .int .u32 1] _ rfl ?_ Try.underlying30 rfl infoPidS) rfl ⟨rfl, (Below.refl _ _).alloc (Nat.le_refl _) _⟩
  intro j v hj
  have := cells_two_new w 1 1 j v hj
  rw [addr_add] at this
  exact this
theorem two_any (w : World) : Calls Try.prog 9 #[] w fun e w' => e = .returned (.agg #[.int .u16 2, .int .u32 1]) ∧ Below w.heap.size w w' := by
  go_enter Try.func9, Try.ntmps9
  go_wp2_with fail
  refine bodyPost_ret (v := .agg ([.int .u16 2, .int .u32 1] : List Value).toArray) (results_cellP (p := 0) (ty := 30) rfl _ _ w.heap.size 0 [.int .u16 2, .int .u32 1] _ rfl ?_ Try.underlying30 rfl infoPidS) rfl ⟨rfl, (Below.refl _ _).alloc (Nat.le_refl _) _⟩
  intro j v hj
  have := cells_two_new w 2 1 j v hj
  rw [addr_add] at this
  exact this
def exD (u : Nat) (ow : Bool) (s : SndD) : LnkD := { snd := s, upto := u, held := [], owes := ow }
def exS (l : List (List Nat)) (t e o : Nat) : SndD := { base := 1, wait := l, told := t, ever := e, once := o, more := 0 }
theorem exSend : sendR (1, 1) [] (2, 1) [97] = (0, [((2, 1), exD 0 false (exS [[97]] 0 0 0))]) := by kernel_rfl
theorem exOut : outR (1, 1) [((2, 1), exD 0 false (exS [[97]] 0 0 0))] = ([⟨2, (1, 1), (2, 1), 1, [97]⟩], [((2, 1), exD 0 false (exS [[97]] 1 1 1))]) := by kernel_rfl
theorem exArr : arriveR (2, 1) [] ⟨2, (1, 1), (2, 1), 1, [97]⟩ = ([[97]], [((1, 1), exD 1 true (exS [] 0 0 0))]) := by kernel_rfl
theorem exOut2 : outR (2, 1) [((1, 1), exD 1 true (exS [] 0 0 0))] = ([⟨3, (2, 1), (1, 1), 1, []⟩], [((1, 1), exD 1 false (exS [] 0 0 0))]) := by kernel_rfl
theorem fit_ex {u : Nat} {ow : Bool} {s : SndD} (h1 : s.base + s.wait.length ≤ 100) (h2 : u ≤ 100) (h3 : ∀ b ∈ s.wait, b.length ≤ 4096) : LFit 100 (exD u ow s) := ⟨h1, by show u + 0 ≤ 100; omega, Nat.zero_le _, h3⟩
theorem fit_one {L : List HubX} {p : Pid} {d : LnkD} (h : hubD L = [(p, d)]) (hf : LFit 100 d) : ∀ x ∈ L, LFit 100 x.d := hub_fit fun y hy => by
  rw [h] at hy
  rw [List.mem_singleton.1 hy]
  exact hf
/-- two hubs in one heap, all of it newer than w0 -/
structure Duo (w0 w : World) (N : Nat → Prop) (ha ra : Nat) (pa : Pid) (LA : List HubX) (hb rb : Nat) (pb : Pid) (LB : List HubX) : Prop where
  below : Below w0.heap.size w0 w
  a : HubIs w N ha ra pa LA
  b : HubIs w N hb rb pb LB
  dis : ∀ b, fpH hb rb LB b → ¬ fpH ha ra LA b
  lt : ∀ b, N b → b < w.heap.size
  lo : ∀ b, N b → w0.heap.size ≤ b
section
variable {w0 w w' : World} {N N' : Nat → Prop} {ha ra hb rb : Nat} {pa pb : Pid} {LA LA' LB LB' : List HubX}
theorem Duo.ext (D : Duo w0 w N ha ra pa LA hb rb pb LB) (h : Below w.heap.size w w') : Duo w0 w' N ha ra pa LA hb rb pb LB :=
  ⟨D.below.trans (h.mono D.below.size), D.a.ext h, D.b.ext h, D.dis, fun b e => Nat.lt_of_lt_of_le (D.lt b e) h.size, D.lo⟩
theorem below_mutK {G : Nat → Prop} (h : Below w0.heap.size w0 w) (hm : Mut G w w') (hG : ∀ k, G k → w0.heap.size ≤ k) : Below w0.heap.size w0 w' :=
  h.trans ⟨hm.os, hm.tape, hm.output, hm.size, fun k hk => hm.block k (Nat.lt_of_lt_of_le hk h.size) fun e => by have := hG k e; omega⟩
theorem Duo.stepA (D : Duo w0 w N ha ra pa LA hb rb pb LB) (R : HubR w w' N N' ha ra pa LA LA') : Duo w0 w' N' ha ra pa LA' hb rb pb LB :=
  ⟨below_mutK D.below R.mt fun k e => D.lo k (D.a.fp k e), R.is, (R.beside D.a D.b D.dis).1, (R.beside D.a D.b D.dis).2, R.lt, fun b e => (R.nw b e).elim (D.lo b) fun e => Nat.le_trans D.below.size e⟩
theorem Duo.swap (D : Duo w0 w N ha ra pa LA hb rb pb LB) : Duo w0 w N hb rb pb LB ha ra pa LA := ⟨D.below, D.b, D.a, fun b e e2 => D.dis b e2 e, D.lt, D.lo⟩
theorem Duo.stepB (D : Duo w0 w N ha ra pa LA hb rb pb LB) (R : HubR w w' N N' hb rb pb LB LB') : Duo w0 w' N' ha ra pa LA hb rb pb LB' := (D.swap.stepA R).swap
end
theorem two_new {w0 w1 w2 : World} {ha ra hb rb : Nat} {pa pb : Pid} (hb1 : Below w0.heap.size w0 w1) (HA : HubIs w1 (fun b => False ∨ fpH ha ra [] b) ha ra pa []) (h3 : w0.heap.size ≤ ha) (h4 : w0.heap.size ≤ ra) (hb2 : Below w1.heap.size w1 w2) (HB : HubIs w2 (fun b => (False ∨ fpH ha ra [] b) ∨ fpH hb rb [] b) hb rb pb []) (h1 : w1.heap.size ≤ hb) (h2 : w1.heap.size ≤ rb) :
    ∃ N2, Duo w0 w2 N2 ha ra pa [] hb rb pb [] := by
  have hnew : ∀ b, fpH hb rb [] b → w1.heap.size ≤ b := fun b e => by
    rcases e with e | e | ⟨x, hx, -⟩
    · omega
    · omega
    · cases hx
  have hnew0 : ∀ b, fpH ha ra [] b → w0.heap.size ≤ b := fun b e => by
    rcases e with e | e | ⟨x, hx, -⟩
    · omega
    · omega
    · cases hx
  refine ⟨_, hb1.trans (hb2.mono hb1.size), (HA.less (N' := fun b => (False ∨ fpH ha ra [] b) ∨ fpH hb rb [] b) (fun b e => .inl (HA.fp b e)) (fun b e => e.imp id (hnew b))).ext hb2, HB, fun b e e2 => ?_, fun b e => ?_, fun b e => ?_⟩
  · have := hnew b e; have := HA.fplt b e2; omega
  · rcases e with (e | e) | e
    · exact e.elim
    · exact Nat.lt_of_lt_of_le (HA.fplt b e) hb2.size
    · exact HB.fplt b e
  · rcases e with (e | e) | e
    · exact e.elim
    · exact hnew0 b e
    · exact Nat.le_trans hb1.size (hnew b e)
theorem ok21 : ok (2, 1) := by unfold ok; decide
theorem ok11 : ok (1, 1) := by unfold ok; decide
theorem byte_oneF (w : World) (x : Nat) (fr : Nat × Nat) : ByteRow (w.alloc (.cells #[.int .u8 x] 5 fr)) (some ⟨w.heap.size, 0, none⟩) [x] :=
  .inr ⟨w.heap.size, 0, rfl, by simp, fun i hi => by
    have : i = 0 := by simpa using hi
    subst this
    rw [World.cell?_alloc_mark]; rfl⟩
theorem item_one {w : World} {N : Nat → Prop} {b c : Nat} (hr : ByteRow w (some ⟨b, 0, none⟩) [97]) (hb : b < w.heap.size) (hn : ¬ N b) : ItemAt w N (.slice (some ⟨b, 0, none⟩) 1 c) [97] :=
  ⟨_, _, rfl, hr, by decide, fun b' off e => by cases e; exact ⟨hb, hn⟩⟩
set_option maxRecDepth 100000 in
set_option maxHeartbeats 6400000 in
theorem awake_any (w : World) : Calls Try.prog 6 #[] w fun e w' => e = .returned (.bool true) ∧ Below w.heap.size w w' := by
  have ET := hid two_any
  have EO := hid one_any
  go_enter Try.func6, Try.ntmps6
  go_wp2_with fail
  refine (EO.out w).mono ?_
  rintro e w' ⟨rfl, hb0⟩
  have HB0 := hid hb0
  clear hb0
  go_wp2_with fail
  refine (hnew_any (1, 1) w' (fun _ => False)).mono ?_
  rintro e w1 ⟨ha, ra, rfl, hb1, HA1, hha, hra⟩
  have HB1 := hid hb1
  have HAA := hid HA1
  have HHA := hid (And.intro hha hra)
  clear hb1 HA1 hha hra
  go_wp2_with fail
  refine (ET.out w1).mono ?_
  rintro e w1' ⟨rfl, hb1'⟩
  have HB1' := hid hb1'
  clear hb1'
  go_wp2_with fail
  refine (hnew_any (2, 1) w1' (fun b => False ∨ fpH ha ra [] b)).mono ?_
  rintro e w2 ⟨hb, rb, rfl, hb2, HB2, hhb, hrb⟩
  obtain ⟨N2, D2⟩ := two_new (HB0.out.trans ((HB1.out.trans (HB1'.out.mono HB1.out.size)).mono HB0.out.size)) (HAA.out.ext HB1'.out) (Nat.le_trans HB0.out.size HHA.out.1) (Nat.le_trans HB0.out.size HHA.out.2) hb2 HB2 hhb hrb
  have HD2 := hid D2
  clear hb2 HB2 hhb hrb HAA HB1 HHA HB0 HB1' D2
  go_wp2_with fail
  refine (ET.out w2).mono ?_
  rintro e w2' ⟨rfl, hb2'⟩
  have D2' := HD2.out.ext hb2'
  clear hb2' HD2
  obtain ⟨W3, hW3⟩ : ∃ W3, w2'.alloc (.cells #[.int .u8 97] 5 (1, 2)) = W3 := ⟨_, rfl⟩
  have hb3 : Below w2'.heap.size w2' W3 := by rw [← hW3]; exact (Below.refl _ _).alloc (Nat.le_refl _) _
  have hr3 : ByteRow W3 (some ⟨w2'.heap.size, 0, none⟩) [97] := by rw [← hW3]; exact byte_oneF w2' 97 _
  have hcv : (convert 32 32 (.slice (some ⟨w2'.heap.size, 0, none⟩) 1 1)).run Try.prog (w2'.alloc (.cells #[.int .u8 97] 5)) = .ok (.slice (some ⟨w2'.heap.size, 0, none⟩) 1 1) W3 := by
    rw [← hW3]
    exact Go.Joins.run_convert_bytes_const_at w2' 32 5 #[.int .u8 97] 1 1 w2'.heap.size rfl Try.underlying32 Try.underlying5
  have D3 := D2'.ext hb3
  have CS := hsend_any (bc := 1) (n := 1) (bs := [97]) D3.a D3.lt 2 1 ok21 (hid rfl) (by decide) hr3 (by decide) (fun b off e _ e2 => by
    cases e
    have := D2'.a.fplt _ e2
    omega)
  rw [show sendR (1, 1) (hubD ([] : List HubX)) (2, 1) [97] = _ from exSend] at CS
  have CS := hid CS
  have HD3 := hid D3
  clear hb3 hr3 D2' D3 hW3
  go_wp2_with fail
  refine CS.out.mono ?_
  rintro e w4 ⟨rfl, N4, LA, HR4, hLA⟩
  have D4 := HD3.out.stepA HR4
  have CO := hout_any D4.a D4.lt (fit_one hLA (fit_ex (by decide) (by decide) (by decide))) (by decide)
  rw [hLA, exOut] at CO
  have CO := hid CO
  have HD4 := hid D4
  clear HR4 D4 hLA HD3 CS hcv
  go_wp2_with fail
  refine CO.out.mono ?_
  rintro e w5 ⟨v5, rfl, LA5, xs5, R5, hLA5⟩
  have HD5 := hid (HD4.out.stepA R5.hub)
  have RN5 := hid (R5.rowN HD4.out.lt)
  obtain ⟨pg, pc, pa, pd, rfl, hp1, hp2, hp3, hp4, hp5, hp6⟩ := RN5.out.pack (i := 0) (P := ⟨2, (1, 1), (2, 1), 1, [97]⟩) rfl
  have HP := hid hp3
  have HL5 := hid hLA5
  clear hp1 hp2 hp3 hp4 hp5 hp6 R5 hLA5 HD4 CO
  go_wp2_with fail
  refine (EO.out w5).mono ?_
  rintro e w5a ⟨rfl, hb5a⟩
  have HB5a := hid hb5a
  clear hb5a
  go_wp2_with fail
  refine (ET.out w5a).mono ?_
  rintro e w5b ⟨rfl, hb5b⟩
  have HB5b := hid (HB5a.out.trans (hb5b.mono HB5a.out.size))
  clear hb5b HB5a
  obtain ⟨W6, hW6⟩ : ∃ W6, w5b.alloc (.cells #[.int .u8 97] 5 (1, 2)) = W6 := ⟨_, rfl⟩
  have hcv : (convert 32 32 (.slice (some ⟨w5b.heap.size, 0, none⟩) 1 1)).run Try.prog (w5b.alloc (.cells #[.int .u8 97] 5)) = .ok (.slice (some ⟨w5b.heap.size, 0, none⟩) 1 1) W6 := by
    rw [← hW6]
    exact Go.Joins.run_convert_bytes_const_at w5b 32 5 #[.int .u8 97] 1 1 w5b.heap.size rfl Try.underlying32 Try.underlying5
  have hb6 : Below w5b.heap.size w5b W6 := by rw [← hW6]; exact (Below.refl _ _).alloc (Nat.le_refl _) _
  have hr6 : ByteRow W6 (some ⟨w5b.heap.size, 0, none⟩) [97] := by rw [← hW6]; exact byte_oneF w5b 97 _
  have hz6 : w5b.heap.size < W6.heap.size := by rw [← hW6]; simp
  obtain ⟨W7, hW7⟩ : ∃ W7, W6.alloc (.cells #[.int .i64 2, .int .u16 1, .int .u32 1, .int .u16 2, .int .u32 1, .int .u64 1, .slice (some ⟨w5b.heap.size, 0, none⟩) 1 1] 41) = W7 := ⟨_, rfl⟩
  have hb7 : Below W6.heap.size W6 W7 := by rw [← hW7]; exact (Below.refl _ _).alloc (Nat.le_refl _) _
  have hrk : RowK W7 7 (.slice (some ⟨W6.heap.size, 0, none⟩) 1 1) [[.int .i64 2, .int .u16 1, .int .u32 1, .int .u16 2, .int .u32 1, .int .u64 1, .slice (some ⟨w5b.heap.size, 0, none⟩) 1 1]] := by
    rw [← hW7]
    exact RowK.one (by simp) (cells7_new W6 _ _ _ _ _ _ _ _)
  have hek : ElsAt W7 (fun _ => False) [[.int .i64 2, .int .u16 1, .int .u32 1, .int .u16 2, .int .u32 1, .int .u64 1, .slice (some ⟨w5b.heap.size, 0, none⟩) 1 1]] [packC ⟨2, (1, 1), (2, 1), 1, [97]⟩] :=
    ElsAt.one (q := [.int .i64 2, .int .u16 1, .int .u32 1, .int .u16 2, .int .u32 1, .int .u64 1]) (item_one (hr6.ext hb7) (Nat.lt_of_lt_of_le hz6 hb7.size) id)
  have hbw7 : Below w5.heap.size w5 W7 := HB5b.out.trans ((hb6.trans (hb7.mono hb6.size)).mono HB5b.out.size)
  have RN7 := RN5.out.ext hbw7
  have CP := hid (samePk_true (pk := [⟨2, (1, 1), (2, 1), 1, [97]⟩]) RN7.row RN7.els hrk hek (by decide))
  have HBW7 := hid hbw7
  clear hb6 hr6 hz6 hb7 hrk hek hbw7 RN7 hW6 HB5b
  go_wp2_with fail
  refine CP.out.mono ?_
  rintro e w8 ⟨rfl, hb8⟩
  have hbw8 : Below w5.heap.size w5 w8 := HBW7.out.trans (hb8.mono HBW7.out.size)
  have hD8 := HD5.out.ext hbw8
  have hR8 := RN5.out.ext hbw8
  obtain ⟨pg', pc', pa', pd', he, hq1, hq2, hq3, hq4, hq5, hq6⟩ := hR8.pack (i := 0) (P := ⟨2, (1, 1), (2, 1), 1, [97]⟩) rfl
  injection he with he1 he2 he3
  injection he1 with he1
  injection he1 with he1
  subst he1
  have c0 := hq3 0 _ rfl
  have c1 := hq3 1 _ rfl
  have c2 := hq3 2 _ rfl
  have c3 := hq3 3 _ rfl
  have c4 := hq3 4 _ rfl
  have c5 := hq3 5 _ rfl
  have c6 := hq3 6 _ rfl
  simp only [Nat.zero_mul, Nat.zero_add] at c0 c1 c2 c3 c4 c5 c6
  have CA := harrive_any (kd := 2) (f1 := 1) (f2 := 1) (t1 := 2) (t2 := 1) (sq := 1) (n := 1) (bc := pd') hD8.b hD8.lt (fun x hx => by cases hx) (show 100 ≤ 900000 by decide) ok11 (by decide) (hid rfl) (by decide) hq4 hq5 (fun b off e _ e2 => hq6 b off e (hD8.b.fp b e2))
  rw [show arriveR (2, 1) (hubD ([] : List HubX)) ⟨2, (1, 1), (2, 1), 1, [97]⟩ = _ from exArr] at CA
  have CA := hid CA
  have HD8 := hid hD8
  clear hb8 hbw8 hD8 hR8 hq1 hq2 hq3 hq4 hq5 hq6 he2 he3 HBW7 HD5 RN5 CP HL5 hW7 hcv HP
  go_wp2_with fail
  refine CA.out.mono ?_
  rintro e w9 ⟨v9, rfl, N9, LB, xs9, R9, hLB⟩
  have HD9 := hid (HD8.out.stepB R9.hub)
  have RN9 := hid R9.rowN
  have HL9 := hid hLB
  clear R9 hLB c0 c1 c2 c3 c4 c5 c6 CA HD8
  go_wp2_with fail
  refine (EO.out w9).mono ?_
  rintro e w9a ⟨rfl, hb9a⟩
  have HB9a := hid hb9a
  clear hb9a
  obtain ⟨W10, hW10⟩ : ∃ W10, w9a.alloc (.cells #[.int .u8 97] 5 (1, 2)) = W10 := ⟨_, rfl⟩
  have hcv : (convert 32 32 (.slice (some ⟨w9a.heap.size, 0, none⟩) 1 1)).run Try.prog (w9a.alloc (.cells #[.int .u8 97] 5)) = .ok (.slice (some ⟨w9a.heap.size, 0, none⟩) 1 1) W10 := by
    rw [← hW10]
    exact Go.Joins.run_convert_bytes_const_at w9a 32 5 #[.int .u8 97] 1 1 w9a.heap.size rfl Try.underlying32 Try.underlying5
  have hb10 : Below w9a.heap.size w9a W10 := by rw [← hW10]; exact (Below.refl _ _).alloc (Nat.le_refl _) _
  have hr10 : ByteRow W10 (some ⟨w9a.heap.size, 0, none⟩) [97] := by rw [← hW10]; exact byte_oneF w9a 97 _
  have hz10 : w9a.heap.size < W10.heap.size := by rw [← hW10]; simp
  obtain ⟨W11, hW11⟩ : ∃ W11, W10.alloc (.cells #[.int .u16 1, .int .u32 1, .slice (some ⟨w9a.heap.size, 0, none⟩) 1 1] 43) = W11 := ⟨_, rfl⟩
  have hb11 : Below W10.heap.size W10 W11 := by rw [← hW11]; exact (Below.refl _ _).alloc (Nat.le_refl _) _
  have hrk : RowK W11 3 (.slice (some ⟨W10.heap.size, 0, none⟩) 1 1) [[.int .u16 1, .int .u32 1, .slice (some ⟨w9a.heap.size, 0, none⟩) 1 1]] := by
    rw [← hW11]
    exact RowK.one (by simp) (cells3_new W10 _ _ _ _)
  have hek : ElsAt W11 (fun _ => False) [[.int .u16 1, .int .u32 1, .slice (some ⟨w9a.heap.size, 0, none⟩) 1 1]] [gotC (1, 1) [97]] :=
    ElsAt.one (q := [.int .u16 1, .int .u32 1]) (item_one (hr10.ext hb11) (Nat.lt_of_lt_of_le hz10 hb11.size) id)
  have hbw11 : Below w9.heap.size w9 W11 := HB9a.out.trans ((hb10.trans (hb11.mono hb10.size)).mono HB9a.out.size)
  have RN11 := RN9.out.ext hbw11
  have CG := hid (sameGt_true (pk := [((1, 1), [97])]) RN11.row RN11.els hrk hek (by decide))
  have HBW11 := hid hbw11
  clear hb10 hr10 hz10 hb11 hrk hek hbw11 RN11 hW10 HB9a
  go_wp2_with fail
  refine CG.out.mono ?_
  rintro e w12 ⟨rfl, hb12⟩
  have hbw12 : Below w9.heap.size w9 w12 := HBW11.out.trans (hb12.mono HBW11.out.size)
  have hD12 := HD9.out.ext hbw12
  have CO := hout_any hD12.b hD12.lt (fit_one HL9.out (fit_ex (by decide) (by decide) (by decide))) (by decide)
  rw [HL9.out, exOut2] at CO
  have CO := hid CO
  have HD12 := hid hD12
  clear hb12 hbw12 hD12 HBW11 HD9 RN9 HL9 CG hcv hW11
  go_wp2_with fail
  refine CO.out.mono ?_
  rintro e w13 ⟨v13, rfl, LB13, xs13, R13, hLB13⟩
  have HD13 := hid (HD12.out.stepB R13.hub)
  have RN13 := hid (R13.rowN HD12.out.lt)
  clear R13 hLB13 CO HD12
  go_wp2_with fail
  refine (ET.out w13).mono ?_
  rintro e w13a ⟨rfl, hb13a⟩
  have HB13a := hid hb13a
  clear hb13a
  go_wp2_with fail
  refine (EO.out w13a).mono ?_
  rintro e w13b ⟨rfl, hb13b⟩
  have HB13b := hid (HB13a.out.trans (hb13b.mono HB13a.out.size))
  clear hb13b HB13a
  obtain ⟨W14, hW14⟩ : ∃ W14, w13b.alloc (.cells #[.int .i64 3, .int .u16 2, .int .u32 1, .int .u16 1, .int .u32 1, .int .u64 1, .slice none 0 0] 41) = W14 := ⟨_, rfl⟩
  have hb14 : Below w13b.heap.size w13b W14 := by rw [← hW14]; exact (Below.refl _ _).alloc (Nat.le_refl _) _
  have hrk : RowK W14 7 (.slice (some ⟨w13b.heap.size, 0, none⟩) 1 1) [[.int .i64 3, .int .u16 2, .int .u32 1, .int .u16 1, .int .u32 1, .int .u64 1, .slice none 0 0]] := by
    rw [← hW14]
    exact RowK.one (by simp) (cells7_new w13b _ _ _ _ _ _ _ _)
  have hek : ElsAt W14 (fun _ => False) [[.int .i64 3, .int .u16 2, .int .u32 1, .int .u16 1, .int .u32 1, .int .u64 1, .slice none 0 0]] [packC ⟨3, (2, 1), (1, 1), 1, []⟩] :=
    ElsAt.one (q := [.int .i64 3, .int .u16 2, .int .u32 1, .int .u16 1, .int .u32 1, .int .u64 1]) (ItemAt.none _ _)
  have hbw14 : Below w13.heap.size w13 W14 := HB13b.out.trans (hb14.mono HB13b.out.size)
  have RN14 := RN13.out.ext hbw14
  have CP := hid (samePk_true (pk := [⟨3, (2, 1), (1, 1), 1, []⟩]) RN14.row RN14.els hrk hek (by decide))
  have HBW14 := hid hbw14
  clear hb14 hrk hek hbw14 RN14 HB13b
  go_wp2_with fail
  refine CP.out.mono ?_
  rintro e w15 ⟨rfl, hb15⟩
  go_wp2_with fail
  go_ret
  exact ⟨rfl, (HD13.out.ext (HBW14.out.trans (hb15.mono HBW14.out.size))).below⟩
end Go.Proofs.Ytidohmpnefcpcaa

namespace Go.Proofs.Ytidohmpnefcpcaa
open Go.RowKit
/-! ### HubPair in plain words -/
def aD (s : SndD) : LnkD := { snd := s, upto := 0, held := [], owes := false }
def bD (u : Nat) (ow : Bool) : LnkD := { snd := sndNew, upto := u, held := [], owes := ow }
/-- the sender's hub, when n texts have been let go of -/
def AOk (l : List (List Nat)) (n : Nat) (H : HubD) : Prop := (l = [] ∧ H = []) ∨ (l ≠ [] ∧ ∃ s : SndD, H = [((2, 1), aD s)] ∧ s.base = n + 1 ∧ s.wait = l.drop n ∧ s.told = 0)
/-- the same behind an Out: m are told -/
def AOut (l : List (List Nat)) (n m : Nat) (H : HubD) : Prop := (l = [] ∧ H = []) ∨ (l ≠ [] ∧ ∃ s : SndD, H = [((2, 1), aD s)] ∧ s.base = n + 1 ∧ s.wait = l.drop n ∧ s.told < 2 ^ m)
/-- the receiver's hub -/
def BOk (n : Nat) (ow : Bool) (H : HubD) : Prop := (n = 0 ∧ ow = false ∧ H = []) ∨ H = [((1, 1), bD n ow)]
def sentS (l : List (List Nat)) (k : Nat) : SndD := { base := 1, wait := l.take k, told := 0, ever := 0, once := 0, more := 0 }
def sentD (l : List (List Nat)) (k : Nat) : HubD := if k = 0 then [] else [((2, 1), aD (sentS l k))]
theorem sent_step {l : List (List Nat)} {k : Nat} (hk : k < l.length) (h30 : l.length ≤ 30) (h50 : l[k].length ≤ 50) : sendR (1, 1) (sentD l k) (2, 1) l[k] = (0, sentD l (k + 1)) := by
  have ho : otherB (1, 1) (2, 1) = true := by decide
  have hc : ∀ s : SndD, s.wait.length ≤ 30 → putC s l[k] = 0 ∧ putD s l[k] = { s with wait := s.wait ++ [l[k]] } := fun s hs => by
    unfold putC putD
    rw [if_neg (by omega), if_neg (by omega), if_neg (by omega), if_neg (by omega)]
    exact ⟨rfl, rfl⟩
  unfold sendR
  rw [if_pos ho]
  by_cases h0 : k = 0
  · subst h0
    have e : linkD (sentD l 0) (2, 1) = some [((2, 1), lnkNew)] := rfl
    rw [e]
    simp only [look, if_true, ins]
    obtain ⟨h1, h2⟩ := hc lnkNew.snd (by decide)
    rw [h1, h2]
    have : sentD l (0 + 1) = [((2, 1), aD (sentS l 1))] := rfl
    rw [this]
    unfold sentS aD
    rw [List.take_succ_eq_append_getElem hk]
    rfl
  · have e1 : sentD l k = [((2, 1), aD (sentS l k))] := by unfold sentD; rw [if_neg h0]
    have e2 : sentD l (k + 1) = [((2, 1), aD (sentS l (k + 1)))] := by unfold sentD; rw [if_neg (by omega)]
    rw [e1, e2]
    have e : linkD [((2, 1), aD (sentS l k))] (2, 1) = some [((2, 1), aD (sentS l k))] := rfl
    rw [e]
    simp only [look, if_true, ins]
    obtain ⟨h1, h2⟩ := hc (aD (sentS l k)).snd (by show (l.take k).length ≤ 30; simp; omega)
    rw [h1, h2]
    unfold sentS aD
    rw [List.take_succ_eq_append_getElem hk]
theorem sent_all (l : List (List Nat)) : AOk l 0 (sentD l l.length) := by
  by_cases h : l = []
  · subst h; exact .inl ⟨rfl, rfl⟩
  · refine .inr ⟨h, sentS l l.length, ?_, rfl, by simp [sentS], rfl⟩
    unfold sentD
    rw [if_neg (fun e => h (List.length_eq_zero_iff.1 e))]
theorem aok_tick {l : List (List Nat)} {n : Nat} {H : HubD} (h : AOk l n H) : AOk l n (tickH H) := by
  rcases h with ⟨h1, rfl⟩ | ⟨h1, s, rfl, h2, h3, h4⟩
  · exact .inl ⟨h1, rfl⟩
  · exact .inr ⟨h1, { s with told := 0 }, rfl, h2, h3, rfl⟩
/-! what is due when nothing is told -/
theorem dueStep_told (d : SndD) (i : Nat) : (dueStep d i).told = d.told ||| 2 ^ i := by unfold dueStep; split <;> rfl
theorem due_fresh : ∀ (f i : Nat) (d : SndD), d.told < 2 ^ i → dueL f i d = List.range' i f ∧ (dueE f i d).told < 2 ^ (i + f)
  | 0, i, d, h => ⟨rfl, h⟩
  | f + 1, i, d, h => by
    have hb : d.told.testBit i = false := Nat.testBit_lt_two_pow h
    have h2 : (dueStep d i).told < 2 ^ (i + 1) := by
      rw [dueStep_told]
      exact Nat.or_lt_two_pow (Nat.lt_of_lt_of_le h (Nat.pow_le_pow_right (by decide) (by omega))) (Nat.pow_lt_pow_right (by decide) (by omega))
    obtain ⟨h3, h4⟩ := due_fresh f (i + 1) (dueStep d i) h2
    unfold dueL dueE
    rw [if_neg (by rw [hb]; decide), if_neg (by rw [hb]; decide), h3]
    refine ⟨by rw [List.range'_succ], by rw [show i + (f + 1) = i + 1 + f by omega]; exact h4⟩
/-- what goes in one turn -/
def goes (l : List (List Nat)) (n : Nat) : Nat := min (l.length - n) 16
def packT (l : List (List Nat)) (n i : Nat) : PackD := ⟨2, (1, 1), (2, 1), n + 1 + i, l.getD (n + i) []⟩
theorem outA {l : List (List Nat)} {n : Nat} {H : HubD} (h : AOk l n H) : ∃ H', outR (1, 1) H = ((List.range (goes l n)).map (packT l n), H') ∧ AOut l n (goes l n) H' := by
  rcases h with ⟨h1, rfl⟩ | ⟨h1, s, rfl, h2, h3, h4⟩
  · subst h1
    refine ⟨[], ?_, .inl ⟨rfl, rfl⟩⟩
    have : goes [] n = 0 := by simp [goes]
    rw [this]
    have e : peersR [] = [] := by unfold peersR sortL; simp
    unfold outR
    rw [e]
    rfl
  · have hp : peersR [((2, 1), aD s)] = [(2, 1)] := by unfold peersR sortL; simp
    have hm : min s.wait.length 16 = goes l n := by rw [h3, List.length_drop]; rfl
    obtain ⟨h5, h6⟩ := due_fresh (goes l n) 0 s (by rw [h4]; decide)
    rw [Nat.zero_add] at h6
    have hb := dueE_base (goes l n) 0 s
    refine ⟨[((2, 1), aD (dueE (goes l n) 0 s))], ?_, .inr ⟨h1, _, rfl, by rw [hb.1, h2], by rw [hb.2, h3], h6⟩⟩
    unfold outR
    rw [hp]
    simp only [outGo, look, if_true, ins, List.append_nil]
    have e1 : packs (1, 1) (2, 1) (aD s) = (List.range (goes l n)).map (packT l n) := by
      unfold packs ackP
      rw [if_neg (show ¬ ((aD s).owes = true) from Bool.false_ne_true), List.nil_append]
      show (dueI s).map _ = _
      unfold dueI
      rw [hm, h5, List.map_map, ← List.range_eq_range']
      refine List.map_congr_left fun i hi => ?_
      have hi := List.mem_range.1 hi
      simp only [Function.comp, dueP, itemD, packT, h2, h3]
      rw [List.getD_eq_getElem?_getD, List.getElem?_drop, List.getD_eq_getElem?_getD]
    have e2 : outD (aD s) = aD (dueE (goes l n) 0 s) := by
      unfold outD aD dueD
      simp only [hm]
    rw [e1, e2]
theorem goes_le (l : List (List Nat)) (n : Nat) : goes l n ≤ l.length - n ∧ goes l n ≤ 16 := ⟨Nat.min_le_left _ _, Nat.min_le_right _ _⟩
theorem arrB {n i : Nat} {ow : Bool} {H : HubD} {l : List (List Nat)} (h : BOk (n + i) ow H) : ∃ H', arriveR (2, 1) H (packT l n i) = ([l.getD (n + i) []], H') ∧ BOk (n + (i + 1)) true H' := by
  have hl : ∃ d, linkD H (1, 1) = some [((1, 1), d)] ∧ d.snd = sndNew ∧ d.upto = n + i ∧ d.held = [] := by
    rcases h with ⟨h1, -, rfl⟩ | rfl
    · exact ⟨lnkNew, rfl, rfl, h1.symm, rfl⟩
    · exact ⟨bD (n + i) ow, rfl, rfl, rfl, rfl⟩
  obtain ⟨d, h1, h2, h3, h4⟩ := hl
  refine ⟨[((1, 1), bD (n + (i + 1)) true)], ?_, .inr rfl⟩
  unfold arriveR packT
  rw [if_pos ⟨rfl, show otherB (2, 1) (1, 1) = true by decide⟩, if_pos rfl]
  simp only
  rw [h1]
  simp only [look, if_true]
  obtain ⟨s0, u0, hd0, ow0⟩ := d
  simp only at h2 h3 h4
  subst h2; subst h3; subst h4
  have hno : ¬ takeNo ⟨sndNew, n + i, [], ow0⟩ (n + 1 + i) := by
    unfold takeNo
    simp only [look, Option.isSome_none, Bool.false_eq_true, false_or]
    omega
  have ht : takeT ⟨sndNew, n + i, [], ow0⟩ (n + 1 + i) (l.getD (n + i) []) = ([l.getD (n + i) []], n + i + 1, []) := by
    unfold takeT
    have e1 : n + 1 + i = n + i + 1 := by omega
    simp only [List.length_nil, ins, e1]
    rw [takeGo_some (b := l.getD (n + i) []) (by simp [look])]
    have e2 : del (n + i + 1) [(n + i + 1, l.getD (n + i) [])] = [] := by simp [del]
    rw [e2, takeGo_none (by simp [look])]
  unfold takeL takeD
  rw [if_neg hno, if_neg hno, ht]
  simp only [ins, if_true]
  rfl
theorem outB {n : Nat} {ow : Bool} {H : HubD} (h : BOk n ow H) : ∃ H', outR (2, 1) H = ((if ow then [⟨3, (2, 1), (1, 1), n, []⟩] else []), H') ∧ BOk n false H' := by
  rcases h with ⟨h1, h2, rfl⟩ | rfl
  · subst h2
    have e : peersR [] = [] := by unfold peersR sortL; simp
    refine ⟨[], ?_, .inl ⟨h1, rfl, rfl⟩⟩
    unfold outR
    rw [e]
    rfl
  · have hp : peersR [((1, 1), bD n ow)] = [(1, 1)] := by unfold peersR sortL; simp
    refine ⟨[((1, 1), bD n false)], ?_, .inr rfl⟩
    unfold outR
    rw [hp]
    simp only [outGo, look, if_true, ins, List.append_nil]
    cases ow
    · rfl
    · rfl
theorem arrA {l : List (List Nat)} {n m : Nat} {H : HubD} (h : AOut l n m H) (hm : m = goes l n) (h0 : 0 < m) : ∃ H', arriveR (1, 1) H ⟨3, (2, 1), (1, 1), n + m, []⟩ = ([], H') ∧ AOk l (n + m) H' := by
  have hg := goes_le l n
  rcases h with ⟨h1, rfl⟩ | ⟨h1, s, rfl, h2, h3, h4⟩
  · subst h1
    have : goes [] n = 0 := by simp [goes]
    omega
  · refine ⟨[((2, 1), aD (ackD s (n + m)))], ?_, .inr ⟨h1, _, rfl, ?_⟩⟩
    · unfold arriveR
      rw [if_pos ⟨rfl, show otherB (1, 1) (2, 1) = true by decide⟩, if_neg (show ¬ ((3 : Int) = 2) by decide), if_pos rfl]
      simp only [look, if_true, ins]
      rfl
    · have hw : s.wait.length = l.length - n := by rw [h3, List.length_drop]
      unfold ackD
      rw [if_neg (by omega)]
      refine ⟨rfl, ?_, ?_⟩
      · simp only
        rw [h3, List.drop_drop, h2, show n + (n + m - (n + 1) + 1) = n + m by omega]
      · simp only
        rw [h2, show min (n + m - (n + 1) + 1) 32 = m by omega]
        exact Nat.div_eq_of_lt h4
theorem aout_none {l : List (List Nat)} {n m : Nat} {H : HubD} (h : AOut l n m H) (hm : m = 0) : AOk l n H := by
  rcases h with h | ⟨h1, s, e, h2, h3, h4⟩
  · exact .inl h
  · subst hm
    exact .inr ⟨h1, s, e, h2, h3, by omega⟩
theorem aok_waits {l : List (List Nat)} {H : HubD} (h : AOk l l.length H) : waitsR H (2, 1) = 0 := by
  rcases h with ⟨-, rfl⟩ | ⟨-, s, rfl, -, h3, -⟩
  · rfl
  · show s.wait.length = 0
    rw [h3]; simp
theorem aok_fit {l : List (List Nat)} {n : Nat} {H : HubD} (h : AOk l n H) (hn : n ≤ l.length) (h30 : l.length ≤ 30) (h50 : ∀ b ∈ l, b.length ≤ 50) : ∀ y ∈ H, LFit 100 y.2 := by
  rcases h with ⟨-, rfl⟩ | ⟨-, s, rfl, h2, h3, -⟩
  · intro y hy; cases hy
  · intro y hy
    rw [List.mem_singleton.1 hy]
    refine ⟨?_, by show 0 + 0 ≤ 100; decide, by show 0 ≤ 100; decide, fun b hb => ?_⟩
    · show s.base + s.wait.length ≤ 100
      rw [h2, h3, List.length_drop]; omega
    · have hb : b ∈ s.wait := hb
      rw [h3] at hb
      have := h50 b (List.mem_of_mem_drop hb)
      omega
theorem aout_fit {l : List (List Nat)} {n m : Nat} {H : HubD} (h : AOut l n m H) (hn : n ≤ l.length) (h30 : l.length ≤ 30) (h50 : ∀ b ∈ l, b.length ≤ 50) : ∀ y ∈ H, LFit 100 y.2 := by
  rcases h with ⟨-, rfl⟩ | ⟨-, s, rfl, h2, h3, -⟩
  · intro y hy; cases hy
  · intro y hy
    rw [List.mem_singleton.1 hy]
    refine ⟨?_, by show 0 + 0 ≤ 100; decide, by show 0 ≤ 100; decide, fun b hb => ?_⟩
    · show s.base + s.wait.length ≤ 100
      rw [h2, h3, List.length_drop]; omega
    · have hb : b ∈ s.wait := hb
      rw [h3] at hb
      have := h50 b (List.mem_of_mem_drop hb)
      omega
theorem bok_fit {n : Nat} {ow : Bool} {H : HubD} (h : BOk n ow H) (hn : n ≤ 30) : ∀ y ∈ H, LFit 100 y.2 := by
  rcases h with ⟨-, -, rfl⟩ | rfl
  · intro y hy; cases hy
  · intro y hy
    rw [List.mem_singleton.1 hy]
    exact ⟨by show 1 + 0 ≤ 100; decide, by show n + 0 ≤ 100; omega, by show 0 ≤ 100; decide, fun b hb => by cases hb⟩
end Go.Proofs.Ytidohmpnefcpcaa

namespace Go.Proofs.Ytidohmpnefcpcaa
open Go.RowKit Go.Deep Go.Joins Go.ChangeShapes
/-! ### from the row's reading to packets, lists of bytes, truths, acts of the hub -/
/-- every slice and string in a datum is within the form's reach -/
def Sz {H : Type} (t : TypeId) (d : DataW H) : Prop := ∀ n ∈ d.weights Try.prog t, n ≤ reachBytes
theorem mem_weightsAll {H : Type} {e : TypeId} {d : DataW H} : ∀ {l : List (DataW H)}, d ∈ l → ∀ n ∈ d.weights Try.prog e, n ∈ DataW.weightsAll Try.prog e l
  | x :: l, h, n, hn => by
    simp only [DataW.weightsAll, List.mem_append]
    rcases List.mem_cons.1 h with rfl | h
    · exact .inl hn
    · exact .inr (mem_weightsAll h n hn)
theorem Sz.slice {H : Type} {t e : TypeId} {elems spare : List (DataW H)} (h : Sz t (.slice elems spare)) (ht : Try.prog.underlying t = some (.slice e)) :
    (elems.length + spare.length) * Try.prog.bytesOf e ≤ reachBytes ∧ (∀ d ∈ elems, Sz e d) := by
  have hw : ∀ n, n ∈ (DataW.slice elems spare).weights Try.prog t ↔ n = (elems.length + spare.length) * Try.prog.bytesOf e ∨ n ∈ DataW.weightsAll Try.prog e elems ∨ n ∈ DataW.weightsAll Try.prog e spare := by
    intro n; simp [DataW.weights, ht]
  exact ⟨h _ ((hw _).2 (.inl rfl)), fun d hd n hn => h n ((hw _).2 (.inr (.inl (mem_weightsAll hd n hn))))⟩
theorem cellsU8 : Try.prog.cellsOf 5 = 1 := by kernel_rfl
theorem cellsBytes : Try.prog.cellsOf 32 = 1 := by kernel_rfl
section
variable {H : Type} {enc : TypeId × Value → H} {w : World}
set_option maxRecDepth 100000 in
theorem open_bytesK {n : Nat} {cs : List Value} {x : DataW H × List MemPlace} (h : DataW.trod enc Try.prog w 0 (fun _ => true) true n 32 cs = some x) :
    ∃ (a : Option Addr) (c : Nat) (bs : List Nat), cs = [.slice a bs.length c] ∧ ByteRow w a bs ∧ (∀ b ∈ bs, b < 256) ∧ bs.length ≤ c := by
  rcases open_ints (x := x) Try.underlying32 Try.underlying5 cellsU8 h with ⟨hcs, _⟩ | ⟨a, len, cap, zs, hcs, _, hl, hm, hz, hx, hcell, hwf⟩
  · exact ⟨none, 0, [], hcs, .inl rfl, (by intro x hx; cases hx), Nat.le_refl _⟩
  · simp only [if_true] at hz
    have hzl : ((zs.take len).map Int.toNat).length = len := by simp; omega
    have hb : ∀ z ∈ zs, 0 ≤ z ∧ z ≤ 255 := fun z hz => bounds_u8 (hwf z hz)
    refine ⟨some a, cap, (zs.take len).map Int.toNat, by rw [hzl, hcs], ?_, ?_, by rw [hzl]; exact hl⟩
    · by_cases h0 : len = 0
      · subst h0; exact .inl (by simp)
      · have ha := hcell 0 (by omega)
        have hsp : a.spot = none := by simpa [Addr.add] using World.cell?_spot ha
        obtain ⟨b, off, sp⟩ := a
        simp only at hsp
        subst hsp
        refine .inr ⟨b, off, rfl, ?_, fun i hi => ?_⟩
        · have := World.block_lt_of_cell? w _ ha
          simpa [addr_addB] using this
        · have hi2 : i < len := by rw [hzl] at hi; exact hi
          have g := hcell i (by omega)
          rw [addr_addB] at g
          rw [g]
          have hzi : i < zs.length := by omega
          have hbz := hb zs[i] (List.getElem_mem _)
          simp only [List.getElem_map, List.getElem_take, List.getD_eq_getElem?_getD, List.getElem?_eq_getElem hzi, Option.getD_some]
          congr 2; omega
    · intro x hx'
      obtain ⟨z, hz1, rfl⟩ := List.mem_map.1 hx'
      have := hb z (List.mem_of_mem_take hz1)
      omega
end
/-- a packet as data -/
structure PackX where
  k : Int
  f : Pid
  t : Pid
  q : Nat
  b : List Nat
set_option maxRecDepth 100000 in
structure PackOk (w : World) (a : Option Addr) (x : PackX) : Prop where
  kk : -9223372036854775808 ≤ x.k ∧ x.k ≤ 9223372036854775807
  ff : ok x.f
  tt : ok x.t
  qq : x.q < 18446744073709551616
  rr : ByteRow w a x.b
  bb : ∀ c ∈ x.b, c < 256
set_option maxRecDepth 100000 in
theorem PackOk.ext {w w' : World} {a : Option Addr} {x : PackX} (h : PackOk w a x) (hb : Below w.heap.size w w') : PackOk w' a x := ⟨h.kk, h.ff, h.tt, h.qq, h.rr.ext hb, h.bb⟩
section
variable {H : Type} {enc : TypeId × Value → H} {w : World}
end
end Go.Proofs.Ytidohmpnefcpcaa

namespace Go.Proofs.Ytidohmpnefcpcaa
open Go.RowKit Go.Deep Go.Joins Go.ChangeShapes
/-! ### lists of bytes, truths, acts of the hub, as the row reads them -/
structure BytesOk (w : World) (a : Option Addr) (bs : List Nat) : Prop where
  row : ByteRow w a bs
  lt : ∀ x ∈ bs, x < 256
theorem BytesOk.ext {w w' : World} {a : Option Addr} {bs : List Nat} (h : BytesOk w a bs) (hb : Below w.heap.size w w') : BytesOk w' a bs := ⟨h.row.ext hb, h.lt⟩
def BlRow (w : World) (a : Option Addr) (ls : List (List Nat)) : Prop :=
  ls = [] ∨ ∃ b off, a = some ⟨b, off, none⟩ ∧ b < w.heap.size ∧ ∀ i (h : i < ls.length), ∃ ai ci, w.cell? ⟨b, off + i, none⟩ = some (.slice ai ls[i].length ci) ∧ BytesOk w ai ls[i]
theorem BlRow.ext {w w' : World} {a : Option Addr} {ls : List (List Nat)} (h : BlRow w a ls) (hb : Below w.heap.size w w') : BlRow w' a ls := by
  rcases h with rfl | ⟨b, off, rfl, hlt, hc⟩
  · exact .inl rfl
  · refine .inr ⟨b, off, rfl, by have := hb.size; omega, fun i hi => ?_⟩
    obtain ⟨ai, ci, h1, h2⟩ := hc i hi
    exact ⟨ai, ci, by rw [hb.cell (by exact hlt)]; exact h1, h2.ext hb⟩
theorem BlRow.at {w : World} {a : Option Addr} {ls : List (List Nat)} (h : BlRow w a ls) {k : Nat} (hk : k < ls.length) :
    ∃ b off ai ci, a = some ⟨b, off, none⟩ ∧ b < w.heap.size ∧ w.cell? ⟨b, off + k, none⟩ = some (.slice ai ls[k].length ci) ∧ BytesOk w ai ls[k] := by
  rcases h with rfl | ⟨b, off, rfl, hlt, hc⟩
  · simp at hk
  · obtain ⟨ai, ci, h1, h2⟩ := hc k hk
    exact ⟨b, off, ai, ci, rfl, hlt, h1, h2⟩
def BoolRow (w : World) (a : Option Addr) (bs : List Bool) : Prop :=
  bs = [] ∨ ∃ b off, a = some ⟨b, off, none⟩ ∧ b < w.heap.size ∧ ∀ i (h : i < bs.length), w.cell? ⟨b, off + i, none⟩ = some (.bool bs[i])
theorem BoolRow.ext {w w' : World} {a : Option Addr} {bs : List Bool} (h : BoolRow w a bs) (hb : Below w.heap.size w w') : BoolRow w' a bs := by
  rcases h with rfl | ⟨b, off, rfl, hlt, hc⟩
  · exact .inl rfl
  · exact .inr ⟨b, off, rfl, by have := hb.size; omega, fun i hi => by rw [hb.cell (by exact hlt)]; exact hc i hi⟩
theorem BoolRow.at {w : World} {a : Option Addr} {bs : List Bool} (h : BoolRow w a bs) {k : Nat} (hk : k < bs.length) : ∃ b off, a = some ⟨b, off, none⟩ ∧ w.cell? ⟨b, off + k, none⟩ = some (.bool bs[k]) := by
  rcases h with rfl | ⟨b, off, rfl, hlt, hc⟩
  · simp at hk
  · exact ⟨b, off, rfl, hc k hk⟩
/-- an act as data -/
structure ActX where
  k : Int
  p : Pid
  b : List Nat
  q : PackX
def actL (x : ActX) (a : Option Addr) (c : Nat) (a' : Option Addr) (c' : Nat) : List Value := [.int .i64 x.k, .int .u16 x.p.1, .int .u32 x.p.2, .slice a x.b.length c, .int .i64 x.q.k, .int .u16 x.q.f.1, .int .u32 x.q.f.2, .int .u16 x.q.t.1, .int .u32 x.q.t.2, .int .u64 x.q.q, .slice a' x.q.b.length c']
structure ActOk (w : World) (a a' : Option Addr) (x : ActX) : Prop where
  kk : -9223372036854775808 ≤ x.k ∧ x.k ≤ 9223372036854775807
  pp : ok x.p
  bb : BytesOk w a x.b
  qq : PackOk w a' x.q
theorem ActOk.ext {w w' : World} {a a' : Option Addr} {x : ActX} (h : ActOk w a a' x) (hb : Below w.heap.size w w') : ActOk w' a a' x := ⟨h.kk, h.pp, h.bb.ext hb, h.qq.ext hb⟩
def ActRow (w : World) (a : Option Addr) (xs : List ActX) : Prop :=
  xs = [] ∨ ∃ b off, a = some ⟨b, off, none⟩ ∧ b < w.heap.size ∧ ∀ i (h : i < xs.length), ∃ ai ci aj cj, (∀ j u, (actL xs[i] ai ci aj cj)[j]? = some u → w.cell? ⟨b, off + i * 11 + j, none⟩ = some u) ∧ ActOk w ai aj xs[i]
theorem ActRow.ext {w w' : World} {a : Option Addr} {xs : List ActX} (h : ActRow w a xs) (hb : Below w.heap.size w w') : ActRow w' a xs := by
  rcases h with rfl | ⟨b, off, rfl, hlt, hc⟩
  · exact .inl rfl
  · refine .inr ⟨b, off, rfl, by have := hb.size; omega, fun i hi => ?_⟩
    obtain ⟨ai, ci, aj, cj, h1, h2⟩ := hc i hi
    exact ⟨ai, ci, aj, cj, fun j u hu => by rw [hb.cell (by exact hlt)]; exact h1 j u hu, h2.ext hb⟩
theorem ActRow.at {w : World} {a : Option Addr} {xs : List ActX} (h : ActRow w a xs) {k : Nat} (hk : k < xs.length) :
    ∃ b off ai ci aj cj, a = some ⟨b, off, none⟩ ∧ b < w.heap.size ∧ (∀ j u, (actL xs[k] ai ci aj cj)[j]? = some u → w.cell? ⟨b, off + k * 11 + j, none⟩ = some u) ∧ ActOk w ai aj xs[k] := by
  rcases h with rfl | ⟨b, off, rfl, hlt, hc⟩
  · simp at hk
  · obtain ⟨ai, ci, aj, cj, h1, h2⟩ := hc k hk
    exact ⟨b, off, ai, ci, aj, cj, rfl, hlt, h1, h2⟩
theorem cellsBool : Try.prog.cellsOf 4 = 1 := by kernel_rfl
section
variable {H : Type} {enc : TypeId × Value → H} {w : World}
set_option maxRecDepth 100000 in
theorem open_bytess {base : Nat} {v : Value} {d : DataW H} {p : List MemPlace} (hv : Value.okWide Try.prog w .any base 22 v) (h : DataW.Trod enc Try.prog w 0 (fun _ => true) true 22 v d p) :
    ∃ (a : Option Addr) (c : Nat) (ls : List (List Nat)), v = .slice a ls.length c ∧ BlRow w a ls ∧ ls.length ≤ c := by
  obtain ⟨a0, len0, cap0, rfl⟩ := Go.WideShapes.okWide_slice Try.underlying22 hv
  obtain ⟨fuel, hf⟩ := h
  rcases open_slice1 (x := (d, p)) Try.underlying22 cellsBytes (by simpa [Value.cells] using hf) with ⟨hcs, _⟩ | ⟨a, len, cap, m, k, Vs, D, Pl, hcs, _, hl, hm, hmm, hx, hel⟩
  · cases hcs
    exact ⟨none, 0, [], rfl, .inl rfl, Nat.le_refl _⟩
  · cases hcs
    simp only [if_true] at hmm
    subst hmm
    have hex : ∀ i, ∃ l : List Nat, i < len0 → ∃ ai ci, (w.cell? (a.add i) = some (.slice ai l.length ci) ∧ BytesOk w ai l) := by
      intro i
      by_cases hi : i < len0
      · obtain ⟨h1, h2⟩ := hel i (by omega)
        obtain ⟨ai, ci, l, hv, hr, hw, -⟩ := open_bytesK h2
        have hv := List.cons.inj hv
        exact ⟨l, fun _ => ⟨ai, ci, by rw [h1, hv.1], hr, hw⟩⟩
      · exact ⟨[], fun h => absurd h hi⟩
    obtain ⟨f, hf⟩ := Classical.axiomOfChoice hex
    refine ⟨some a, m, (List.range len0).map f, by simp, ?_, by simpa using hl⟩
    by_cases h0 : len0 = 0
    · subst h0; exact .inl rfl
    · obtain ⟨_, _, ha, _⟩ := hf 0 (by omega)
      have hsp : a.spot = none := by simpa [Addr.add] using World.cell?_spot ha
      obtain ⟨b, off, sp⟩ := a
      simp only at hsp
      subst hsp
      refine .inr ⟨b, off, rfl, ?_, fun i hi => ?_⟩
      · have := World.block_lt_of_cell? w _ ha
        simpa [addr_add] using this
      · have hi' : i < len0 := by simpa using hi
        obtain ⟨ai, ci, g1, g2⟩ := hf i hi'
        rw [addr_add] at g1
        exact ⟨ai, ci, by simpa using g1, by simpa using g2⟩
set_option maxRecDepth 100000 in
theorem open_bools {base : Nat} {v : Value} {d : DataW H} {p : List MemPlace} (hv : Value.okWide Try.prog w .any base 23 v) (h : DataW.Trod enc Try.prog w 0 (fun _ => true) true 23 v d p) :
    ∃ (a : Option Addr) (c : Nat) (ls : List Bool), v = .slice a ls.length c ∧ BoolRow w a ls ∧ ls.length ≤ c := by
  obtain ⟨a0, len0, cap0, rfl⟩ := Go.WideShapes.okWide_slice Try.underlying23 hv
  obtain ⟨fuel, hf⟩ := h
  rcases open_slice1 (x := (d, p)) Try.underlying23 cellsBool (by simpa [Value.cells] using hf) with ⟨hcs, _⟩ | ⟨a, len, cap, m, k, Vs, D, Pl, hcs, _, hl, hm, hmm, hx, hel⟩
  · cases hcs
    exact ⟨none, 0, [], rfl, .inl rfl, Nat.le_refl _⟩
  · cases hcs
    simp only [if_true] at hmm
    subst hmm
    have hex : ∀ i, ∃ b : Bool, i < len0 → w.cell? (a.add i) = some (.bool b) := by
      intro i
      by_cases hi : i < len0
      · obtain ⟨h1, h2⟩ := hel i (by omega)
        obtain ⟨b, h3, -⟩ := DataW.trod_bool Try.underlying4 h2
        exact ⟨b, fun _ => by rw [h1]; simpa using h3⟩
      · exact ⟨false, fun h => absurd h hi⟩
    obtain ⟨f, hf⟩ := Classical.axiomOfChoice hex
    refine ⟨some a, m, (List.range len0).map f, by simp, ?_, by simpa using hl⟩
    by_cases h0 : len0 = 0
    · subst h0; exact .inl rfl
    · have ha := hf 0 (by omega)
      have hsp : a.spot = none := by simpa [Addr.add] using World.cell?_spot ha
      obtain ⟨b, off, sp⟩ := a
      simp only at hsp
      subst hsp
      refine .inr ⟨b, off, rfl, ?_, fun i hi => ?_⟩
      · have := World.block_lt_of_cell? w _ ha
        simpa [addr_add] using this
      · have hi' : i < len0 := by simpa using hi
        have g1 := hf i hi'
        rw [addr_add] at g1
        simpa using g1
end
end Go.Proofs.Ytidohmpnefcpcaa


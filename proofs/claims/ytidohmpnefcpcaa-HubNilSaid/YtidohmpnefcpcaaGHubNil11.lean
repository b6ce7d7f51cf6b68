/- Parts of the proof: KM KO KN. -/
import Derived.Lib.SmallJoins
import Derived.Deep.Slices
import Derived.Deep.Strs
import Derived.SizedLaws
import Derived.ProofKit
import Derived.OpenShut
import Derived.Test.YtidohmpnefcpcaaKL
namespace Go.Proofs.Ytidohmpnefcpcaa
open Go.RowKit
/-! ### two hubs side by side; the document's example -/
theorem RowK.one {w : World} {k b c : Nat} {x : List Value} (hb : b < w.heap.size) (h : ∀ j u, x[j]? = some u → w.cell? ⟨b, j, none⟩ = some u) : RowK w k (.slice (some ⟨b, 0, none⟩) 1 c) [x] :=
  ⟨⟨_, _, rfl⟩, fun i y hi => by
    have h0 : i = 0 := by have := (List.getElem?_eq_some_iff.1 hi).1; simpa using this
    subst h0
    simp at hi; subst hi
    exact ⟨b, c, rfl, hb, fun j u hj => by rw [Nat.zero_mul, Nat.zero_add]; exact h j u hj⟩⟩
theorem ElsAt.one {w : World} {N : Nat → Prop} {q : List Value} {u : Value} {bs : List Nat} (hu : ItemAt w N u bs) : ElsAt w N [q ++ [u]] [(q, bs)] := (ElsAt.nil w N).snoc hu
section
variable {w w' : World} {N N' : Nat → Prop} {h r hb rb : Nat} {sf sb : Pid} {L L' Lb : List HubX}
/-- a hub was called, the other one stays -/
theorem HubR.beside (A : HubR w w' N N' h r sf L L') (H : HubIs w N h r sf L) (B : HubIs w N hb rb sb Lb) (dis : ∀ b, fpH hb rb Lb b → ¬ fpH h r L b) : HubIs w' N' hb rb sb Lb ∧ ∀ b, fpH hb rb Lb b → ¬ fpH h r L' b :=
  ⟨(B.less (N' := N') (fun b e => A.up b (B.fp b e)) A.nw).mut A.mt (fun b _ e => A.up b (H.fp b e)) dis, fun b e e2 => by
    rcases A.fq b e2 with e3 | e3
    · exact dis b e e3
    · have := B.fplt b e; omega⟩
/-- a row that stands in none of the blocks that hubs write -/
structure RowN (w : World) (N : Nat → Prop) (k : Nat) (v : Value) (xs : List (List Value)) (ps : List (List Value × List Nat)) : Prop where
  row : RowK w k v xs
  els : ElsAt w (fun b => N b ∨ v.ownBlock = some b) xs ps
  bl : ∀ g, v.ownBlock = some g → g < w.heap.size ∧ ¬ N g
theorem RowN.step {k : Nat} {v : Value} {xs : List (List Value)} {ps : List (List Value × List Nat)} (R : RowN w N k v xs ps) (A : HubR w w' N N' h r sf L L') (H : HubIs w N h r sf L) : RowN w' N' k v xs ps :=
  ⟨R.row.mut A.mt fun g e e2 => (R.bl g e).2 (H.fp g e2),
   (R.els.grow (N' := fun b => N' b ∨ v.ownBlock = some b) fun b e => by
     rcases e with e | e
     · exact (A.nw b e).elim (fun e => .inl (.inl e)) .inr
     · exact .inl (.inr e)).mut A.mt fun b _ e => .inl (A.up b (H.fp b e)),
   fun g e => ⟨Nat.lt_of_lt_of_le (R.bl g e).1 A.mt.size, fun e2 => by
     rcases A.nw g e2 with e3 | e3
     · exact (R.bl g e).2 e3
     · have := (R.bl g e).1; omega⟩⟩
theorem RowN.ext {k : Nat} {v : Value} {xs : List (List Value)} {ps : List (List Value × List Nat)} (R : RowN w N k v xs ps) (hb : Below w.heap.size w w') : RowN w' N k v xs ps :=
  ⟨R.row.ext hb, R.els.mut (Mut.of_below (F := fun _ => False) hb) fun _ _ e => e.elim, fun g e => ⟨Nat.lt_of_lt_of_le (R.bl g e).1 hb.size, (R.bl g e).2⟩⟩
theorem OutR.rowN {pk : List PackD} {v : Value} {xs : List (List Value)} (R : OutR w w' N h r sf L L' pk v xs) (hN : ∀ b, N b → b < w.heap.size) : RowN w' N 7 v xs (pk.map packC) :=
  ⟨R.row.rowK, R.els, fun g e => ⟨(R.row.blk e).2, fun e2 => by have := (R.row.blk e).1; have := hN g e2; omega⟩⟩
theorem ArrR.rowN {fr : Pid} {ls : List (List Nat)} {v : Value} {xs : List (List Value)} (R : ArrR w w' N N' h r sf L L' fr ls v xs) : RowN w' N' 3 v xs (ls.map (gotC fr)) :=
  ⟨R.row.rowK, R.els, fun g e => ⟨(R.row.blk e).2, R.nv g e⟩⟩
/-- a packet out of a row -/
theorem RowN.pack {pk : List PackD} {v : Value} {xs : List (List Value)} (R : RowN w N 7 v xs (pk.map packC)) {i : Nat} {P : PackD} (hi : pk[i]? = some P) :
    ∃ g c a d, v = .slice (some ⟨g, 0, none⟩) pk.length c ∧ g < w.heap.size ∧ ¬ N g ∧ (∀ j u, [Value.int .i64 P.kind, .int .u16 P.fr.1, .int .u32 P.fr.2, .int .u16 P.dst.1, .int .u32 P.dst.2, .int .u64 P.seq, .slice a P.body.length d][j]? = some u → w.cell? ⟨g, i * 7 + j, none⟩ = some u) ∧
      ByteRow w a P.body ∧ (∀ x ∈ P.body, x < 256) ∧ ∀ b off, a = some ⟨b, off, none⟩ → ¬ N b := by
  have hlt := (List.getElem?_eq_some_iff.1 hi).1
  have hge : pk[i] = P := (List.getElem?_eq_some_iff.1 hi).2
  obtain ⟨u, q1, a, d, e, b1, b2, b3⟩ := R.els.2 i (by rw [List.length_map]; exact hlt)
  rw [List.getElem_map, hge] at q1 e b1 b2
  subst e
  obtain ⟨g, c, e1, e2, e3⟩ := R.row.atk i _ q1
  have hl := R.els.1
  rw [List.length_map] at hl
  rw [hl] at e1
  exact ⟨g, c, a, d, e1, e2, (R.bl g (by rw [e1]; rfl)).2, e3, b1, b2, fun b off ha hn => (b3 b off ha).2 (.inl hn)⟩
theorem RowN.got {fr : Pid} {ls : List (List Nat)} {v : Value} {xs : List (List Value)} (R : RowN w N 3 v xs (ls.map (gotC fr))) {i : Nat} {bs : List Nat} (hi : ls[i]? = some bs) :
    ∃ g c a d, v = .slice (some ⟨g, 0, none⟩) ls.length c ∧ g < w.heap.size ∧ (∀ j u, [Value.int .u16 fr.1, .int .u32 fr.2, .slice a bs.length d][j]? = some u → w.cell? ⟨g, i * 3 + j, none⟩ = some u) ∧ ByteRow w a bs ∧ (∀ x ∈ bs, x < 256) := by
  have hlt := (List.getElem?_eq_some_iff.1 hi).1
  have hge : ls[i] = bs := (List.getElem?_eq_some_iff.1 hi).2
  obtain ⟨u, q1, a, d, e, b1, b2, b3⟩ := R.els.2 i (by rw [List.length_map]; exact hlt)
  rw [List.getElem_map, hge] at q1 e b1 b2
  subst e
  obtain ⟨g, c, e1, e2, e3⟩ := R.row.atk i _ q1
  have hl := R.els.1
  rw [List.length_map] at hl
  rw [hl] at e1
  exact ⟨g, c, a, d, e1, e2, e3, b1, b2⟩
theorem hub_fit {B : Nat} (hD : ∀ y ∈ hubD L, LFit B y.2) : ∀ x ∈ L, LFit B x.d := fun x hx => hD (x.p, x.d) (List.mem_map.2 ⟨x, hx, rfl⟩)
end
theorem results_cellP {P : Program} {fn : Func} {p : Tmp} {ty : TypeId} (h : fn.results = #[.cell p ty]) (tmps : Array Value) (w : World) (b o : Nat) (cs : List Value) (d : TypeDesc)
    (hp : tmps.getD p undef = .pointer (some ⟨b, o, none⟩)) (hc : w.rangeAt b o cs)
    (hu : P.underlying ty = some d) (hd : d.isRow = true) (hi : (P.info? ty).map (·.size) = some cs.length) :
    (results fn tmps).run P w = .ok (.agg cs.toArray) w := by
  have hp' : tmps[p]?.getD undef = .pointer (some ⟨b, o, none⟩) := by simpa using hp
  simp [results, h, hp', asAddr, run_loadVar_mid w b o ty cs d hc hu hd hi]
theorem infoPidS : (Try.prog.info? 30).map (·.size) = some 2 := by kernel_rfl
theorem one_any (w : World) : Calls Try.prog 8 #[] w fun e w' => e = .returned (.agg #[.int .u16 1, .int .u32 1]) ∧ Below w.heap.size w w' := by
  go_enter Try.func8, Try.ntmps8
  go_wp2_with fail
  refine bodyPost_ret (v := .agg ([.int .u16 1, .int .u32 1] : List Value).toArray) (results_cellP (p := 0) (ty := 30) rfl _ _ w.heap.size 0 [.int .u16 1, .int .u32 1] _ rfl ?_ Try.underlying30 rfl infoPidS) rfl ⟨rfl, (Below.refl _ _).alloc (Nat.le_refl _) _⟩
  intro j v hj
  have := cells_two_new w 1 1 j v hj
  rw [addr_add] at this
  exact this
theorem two_any (w : World) : Calls Try.prog 9 #[] w fun e w' => e = .returned (.agg #[.int .u16 2, .int .u32 1]) ∧ Below w.heap.size w w' := by
  go_enter Try.func9, Try.ntmps9
  go_wp2_with fail
  refine bodyPost_ret (v := .agg ([.int .u16 2, .int .u32 1] : List Value).toArray) (results_cellP (p := 0) (ty := 30) rfl _ _ w.heap.size 0 [.int .u16 2, .int .u32 1] _ rfl ?_ Try.underlying30 rfl infoPidS) rfl ⟨rfl, (Below.refl _ _).alloc (Nat.le_refl _) _⟩
  intro j v hj
  have := cells_two_new w 2 1 j v hj
  rw [addr_add] at this
  exact this
def exD (u : Nat) (ow : Bool) (s : SndD) : LnkD := { snd := s, upto := u, held := [], owes := ow }
def exS (l : List (List Nat)) (t e o : Nat) : SndD := { base := 1, wait := l, told := t, ever := e, once := o, more := 0 }
theorem exSend : sendR (1, 1) [] (2, 1) [97] = (0, [((2, 1), exD 0 false (exS [[97]] 0 0 0))]) := by kernel_rfl
theorem exOut : outR (1, 1) [((2, 1), exD 0 false (exS [[97]] 0 0 0))] = ([⟨2, (1, 1), (2, 1), 1, [97]⟩], [((2, 1), exD 0 false (exS [[97]] 1 1 1))]) := by kernel_rfl
theorem exArr : arriveR (2, 1) [] ⟨2, (1, 1), (2, 1), 1, [97]⟩ = ([[97]], [((1, 1), exD 1 true (exS [] 0 0 0))]) := by kernel_rfl
theorem exOut2 : outR (2, 1) [((1, 1), exD 1 true (exS [] 0 0 0))] = ([⟨3, (2, 1), (1, 1), 1, []⟩], [((1, 1), exD 1 false (exS [] 0 0 0))]) := by kernel_rfl
theorem fit_ex {u : Nat} {ow : Bool} {s : SndD} (h1 : s.base + s.wait.length ≤ 100) (h2 : u ≤ 100) (h3 : ∀ b ∈ s.wait, b.length ≤ 4096) : LFit 100 (exD u ow s) := ⟨h1, by show u + 0 ≤ 100; omega, Nat.zero_le _, h3⟩
theorem fit_one {L : List HubX} {p : Pid} {d : LnkD} (h : hubD L = [(p, d)]) (hf : LFit 100 d) : ∀ x ∈ L, LFit 100 x.d := hub_fit fun y hy => by
  rw [h] at hy
  rw [List.mem_singleton.1 hy]
  exact hf
/-- two hubs in one heap, all of it newer than w0 -/
structure Duo (w0 w : World) (N : Nat → Prop) (ha ra : Nat) (pa : Pid) (LA : List HubX) (hb rb : Nat) (pb : Pid) (LB : List HubX) : Prop where
  below : Below w0.heap.size w0 w
  a : HubIs w N ha ra pa LA
  b : HubIs w N hb rb pb LB
  dis : ∀ b, fpH hb rb LB b → ¬ fpH ha ra LA b
  lt : ∀ b, N b → b < w.heap.size
  lo : ∀ b, N b → w0.heap.size ≤ b
section
variable {w0 w w' : World} {N N' : Nat → Prop} {ha ra hb rb : Nat} {pa pb : Pid} {LA LA' LB LB' : List HubX}
theorem Duo.ext (D : Duo w0 w N ha ra pa LA hb rb pb LB) (h : Below w.heap.size w w') : Duo w0 w' N ha ra pa LA hb rb pb LB :=
  ⟨D.below.trans (h.mono D.below.size), D.a.ext h, D.b.ext h, D.dis, fun b e => Nat.lt_of_lt_of_le (D.lt b e) h.size, D.lo⟩
theorem below_mutK {G : Nat → Prop} (h : Below w0.heap.size w0 w) (hm : Mut G w w') (hG : ∀ k, G k → w0.heap.size ≤ k) : Below w0.heap.size w0 w' :=
  h.trans ⟨hm.os, hm.tape, hm.output, hm.size, fun k hk => hm.block k (Nat.lt_of_lt_of_le hk h.size) fun e => by have := hG k e; omega⟩
theorem Duo.stepA (D : Duo w0 w N ha ra pa LA hb rb pb LB) (R : HubR w w' N N' ha ra pa LA LA') : Duo w0 w' N' ha ra pa LA' hb rb pb LB :=
  ⟨below_mutK D.below R.mt fun k e => D.lo k (D.a.fp k e), R.is, (R.beside D.a D.b D.dis).1, (R.beside D.a D.b D.dis).2, R.lt, fun b e => (R.nw b e).elim (D.lo b) fun e => Nat.le_trans D.below.size e⟩
theorem Duo.swap (D : Duo w0 w N ha ra pa LA hb rb pb LB) : Duo w0 w N hb rb pb LB ha ra pa LA := ⟨D.below, D.b, D.a, fun b e e2 => D.dis b e2 e, D.lt, D.lo⟩
theorem Duo.stepB (D : Duo w0 w N ha ra pa LA hb rb pb LB) (R : HubR w w' N N' hb rb pb LB LB') : Duo w0 w' N' ha ra pa LA hb rb pb LB' := (D.swap.stepA R).swap
end
theorem two_new {w0 w1 w2 : World} {ha ra hb rb : Nat} {pa pb : Pid} (hb1 : Below w0.heap.size w0 w1) (HA : HubIs w1 (fun b => False ∨ fpH ha ra [] b) ha ra pa []) (h3 : w0.heap.size ≤ ha) (h4 : w0.heap.size ≤ ra) (hb2 : Below w1.heap.size w1 w2) (HB : HubIs w2 (fun b => (False ∨ fpH ha ra [] b) ∨ fpH hb rb [] b) hb rb pb []) (h1 : w1.heap.size ≤ hb) (h2 : w1.heap.size ≤ rb) :
    ∃ N2, Duo w0 w2 N2 ha ra pa [] hb rb pb [] := by
  have hnew : ∀ b, fpH hb rb [] b → w1.heap.size ≤ b := fun b e => by
    rcases e with e | e | ⟨x, hx, -⟩
    · omega
    · omega
    · cases hx
  have hnew0 : ∀ b, fpH ha ra [] b → w0.heap.size ≤ b := fun b e => by
    rcases e with e | e | ⟨x, hx, -⟩
    · omega
    · omega
    · cases hx
  refine ⟨_, hb1.trans (hb2.mono hb1.size), (HA.less (N' := fun b => (False ∨ fpH ha ra [] b) ∨ fpH hb rb [] b) (fun b e => .inl (HA.fp b e)) (fun b e => e.imp id (hnew b))).ext hb2, HB, fun b e e2 => ?_, fun b e => ?_, fun b e => ?_⟩
  · have := hnew b e; have := HA.fplt b e2; omega
  · rcases e with (e | e) | e
    · exact e.elim
    · exact Nat.lt_of_lt_of_le (HA.fplt b e) hb2.size
    · exact HB.fplt b e
  · rcases e with (e | e) | e
    · exact e.elim
    · exact hnew0 b e
    · exact Nat.le_trans hb1.size (hnew b e)
theorem ok21 : ok (2, 1) := by unfold ok; decide
theorem ok11 : ok (1, 1) := by unfold ok; decide
theorem byte_oneF (w : World) (x : Nat) (fr : Nat × Nat) : ByteRow (w.alloc (.cells #[.int .u8 x] 5 fr)) (some ⟨w.heap.size, 0, none⟩) [x] :=
  .inr ⟨w.heap.size, 0, rfl, by simp, fun i hi => by
    have : i = 0 := by simpa using hi
    subst this
    rw [World.cell?_alloc_mark]; rfl⟩
theorem item_one {w : World} {N : Nat → Prop} {b c : Nat} (hr : ByteRow w (some ⟨b, 0, none⟩) [97]) (hb : b < w.heap.size) (hn : ¬ N b) : ItemAt w N (.slice (some ⟨b, 0, none⟩) 1 c) [97] :=
  ⟨_, _, rfl, hr, by decide, fun b' off e => by cases e; exact ⟨hb, hn⟩⟩
set_option maxRecDepth 100000 in
set_option maxHeartbeats 6400000 in
theorem awake_any (w : World) : Calls Try.prog 6 #[] w fun e w' => e = .returned (.bool true) ∧ Below w.heap.size w w' := by
  have ET := hid two_any
  have EO := hid one_any
  go_enter Try.func6, Try.ntmps6
  go_wp2_with fail
  refine (EO.out w).mono ?_
  rintro e w' ⟨rfl, hb0⟩
  have HB0 := hid hb0
  clear hb0
  go_wp2_with fail
  refine (hnew_any (1, 1) w' (fun _ => False)).mono ?_
  rintro e w1 ⟨ha, ra, rfl, hb1, HA1, hha, hra⟩
  have HB1 := hid hb1
  have HAA := hid HA1
  have HHA := hid (And.intro hha hra)
  clear hb1 HA1 hha hra
  go_wp2_with fail
  refine (ET.out w1).mono ?_
  rintro e w1' ⟨rfl, hb1'⟩
  have HB1' := hid hb1'
  clear hb1'
  go_wp2_with fail
  refine (hnew_any (2, 1) w1' (fun b => False ∨ fpH ha ra [] b)).mono ?_
  rintro e w2 ⟨hb, rb, rfl, hb2, HB2, hhb, hrb⟩
  obtain ⟨N2, D2⟩ := two_new (HB0.out.trans ((HB1.out.trans (HB1'.out.mono HB1.out.size)).mono HB0.out.size)) (HAA.out.ext HB1'.out) (Nat.le_trans HB0.out.size HHA.out.1) (Nat.le_trans HB0.out.size HHA.out.2) hb2 HB2 hhb hrb
  have HD2 := hid D2
  clear hb2 HB2 hhb hrb HAA HB1 HHA HB0 HB1' D2
  go_wp2_with fail
  refine (ET.out w2).mono ?_
  rintro e w2' ⟨rfl, hb2'⟩
  have D2' := HD2.out.ext hb2'
  clear hb2' HD2
  obtain ⟨W3, hW3⟩ : ∃ W3, w2'.alloc (.cells #[.int .u8 97] 5 (1, 2)) = W3 := ⟨_, rfl⟩
  have hb3 : Below w2'.heap.size w2' W3 := by rw [← hW3]; exact (Below.refl _ _).alloc (Nat.le_refl _) _
  have hr3 : ByteRow W3 (some ⟨w2'.heap.size, 0, none⟩) [97] := by rw [← hW3]; exact byte_oneF w2' 97 _
  have hcv : (convert 32 32 (.slice (some ⟨w2'.heap.size, 0, none⟩) 1 1)).run Try.prog (w2'.alloc (.cells #[.int .u8 97] 5)) = .ok (.slice (some ⟨w2'.heap.size, 0, none⟩) 1 1) W3 := by
    rw [← hW3]
    exact Go.Joins.run_convert_bytes_const_at w2' 32 5 #[.int .u8 97] 1 1 w2'.heap.size rfl Try.underlying32 Try.underlying5
  have D3 := D2'.ext hb3
  have CS := hsend_any (bc := 1) (n := 1) (bs := [97]) D3.a D3.lt 2 1 ok21 (hid rfl) (by decide) hr3 (by decide) (fun b off e _ e2 => by
    cases e
    have := D2'.a.fplt _ e2
    omega)
  rw [show sendR (1, 1) (hubD ([] : List HubX)) (2, 1) [97] = _ from exSend] at CS
  have CS := hid CS
  have HD3 := hid D3
  clear hb3 hr3 D2' D3 hW3
  go_wp2_with fail
  refine CS.out.mono ?_
  rintro e w4 ⟨rfl, N4, LA, HR4, hLA⟩
  have D4 := HD3.out.stepA HR4
  have CO := hout_any D4.a D4.lt (fit_one hLA (fit_ex (by decide) (by decide) (by decide))) (by decide)
  rw [hLA, exOut] at CO
  have CO := hid CO
  have HD4 := hid D4
  clear HR4 D4 hLA HD3 CS hcv
  go_wp2_with fail
  refine CO.out.mono ?_
  rintro e w5 ⟨v5, rfl, LA5, xs5, R5, hLA5⟩
  have HD5 := hid (HD4.out.stepA R5.hub)
  have RN5 := hid (R5.rowN HD4.out.lt)
  obtain ⟨pg, pc, pa, pd, rfl, hp1, hp2, hp3, hp4, hp5, hp6⟩ := RN5.out.pack (i := 0) (P := ⟨2, (1, 1), (2, 1), 1, [97]⟩) rfl
  have HP := hid hp3
  have HL5 := hid hLA5
  clear hp1 hp2 hp3 hp4 hp5 hp6 R5 hLA5 HD4 CO
  go_wp2_with fail
  refine (EO.out w5).mono ?_
  rintro e w5a ⟨rfl, hb5a⟩
  have HB5a := hid hb5a
  clear hb5a
  go_wp2_with fail
  refine (ET.out w5a).mono ?_
  rintro e w5b ⟨rfl, hb5b⟩
  have HB5b := hid (HB5a.out.trans (hb5b.mono HB5a.out.size))
  clear hb5b HB5a
  obtain ⟨W6, hW6⟩ : ∃ W6, w5b.alloc (.cells #[.int .u8 97] 5 (1, 2)) = W6 := ⟨_, rfl⟩
  have hcv : (convert 32 32 (.slice (some ⟨w5b.heap.size, 0, none⟩) 1 1)).run Try.prog (w5b.alloc (.cells #[.int .u8 97] 5)) = .ok (.slice (some ⟨w5b.heap.size, 0, none⟩) 1 1) W6 := by
    rw [← hW6]
    exact Go.Joins.run_convert_bytes_const_at w5b 32 5 #[.int .u8 97] 1 1 w5b.heap.size rfl Try.underlying32 Try.underlying5
  have hb6 : Below w5b.heap.size w5b W6 := by rw [← hW6]; exact (Below.refl _ _).alloc (Nat.le_refl _) _
  have hr6 : ByteRow W6 (some ⟨w5b.heap.size, 0, none⟩) [97] := by rw [← hW6]; exact byte_oneF w5b 97 _
  have hz6 : w5b.heap.size < W6.heap.size := by rw [← hW6]; simp
  obtain ⟨W7, hW7⟩ : ∃ W7, W6.alloc (.cells #[.int .i64 2, .int .u16 1, .int .u32 1, .int .u16 2, .int .u32 1, .int .u64 1, .slice (some ⟨w5b.heap.size, 0, none⟩) 1 1] 41) = W7 := ⟨_, rfl⟩
  have hb7 : Below W6.heap.size W6 W7 := by rw [← hW7]; exact (Below.refl _ _).alloc (Nat.le_refl _) _
  have hrk : RowK W7 7 (.slice (some ⟨W6.heap.size, 0, none⟩) 1 1) [[.int .i64 2, .int .u16 1, .int .u32 1, .int .u16 2, .int .u32 1, .int .u64 1, .slice (some ⟨w5b.heap.size, 0, none⟩) 1 1]] := by
    rw [← hW7]
    exact RowK.one (by simp) (cells7_new W6 _ _ _ _ _ _ _ _)
  have hek : ElsAt W7 (fun _ => False) [[.int .i64 2, .int .u16 1, .int .u32 1, .int .u16 2, .int .u32 1, .int .u64 1, .slice (some ⟨w5b.heap.size, 0, none⟩) 1 1]] [packC ⟨2, (1, 1), (2, 1), 1, [97]⟩] :=
    ElsAt.one (q := [.int .i64 2, .int .u16 1, .int .u32 1, .int .u16 2, .int .u32 1, .int .u64 1]) (item_one (hr6.ext hb7) (Nat.lt_of_lt_of_le hz6 hb7.size) id)
  have hbw7 : Below w5.heap.size w5 W7 := HB5b.out.trans ((hb6.trans (hb7.mono hb6.size)).mono HB5b.out.size)
  have RN7 := RN5.out.ext hbw7
  have CP := hid (samePk_true (pk := [⟨2, (1, 1), (2, 1), 1, [97]⟩]) RN7.row RN7.els hrk hek (by decide))
  have HBW7 := hid hbw7
  clear hb6 hr6 hz6 hb7 hrk hek hbw7 RN7 hW6 HB5b
  go_wp2_with fail
  refine CP.out.mono ?_
  rintro e w8 ⟨rfl, hb8⟩
  have hbw8 : Below w5.heap.size w5 w8 := HBW7.out.trans (hb8.mono HBW7.out.size)
  have hD8 := HD5.out.ext hbw8
  have hR8 := RN5.out.ext hbw8
  obtain ⟨pg', pc', pa', pd', he, hq1, hq2, hq3, hq4, hq5, hq6⟩ := hR8.pack (i := 0) (P := ⟨2, (1, 1), (2, 1), 1, [97]⟩) rfl
  injection he with he1 he2 he3
  injection he1 with he1
  injection he1 with he1
  subst he1
  have c0 := hq3 0 _ rfl
  have c1 := hq3 1 _ rfl
  have c2 := hq3 2 _ rfl
  have c3 := hq3 3 _ rfl
  have c4 := hq3 4 _ rfl
  have c5 := hq3 5 _ rfl
  have c6 := hq3 6 _ rfl
  simp only [Nat.zero_mul, Nat.zero_add] at c0 c1 c2 c3 c4 c5 c6
  have CA := harrive_any (kd := 2) (f1 := 1) (f2 := 1) (t1 := 2) (t2 := 1) (sq := 1) (n := 1) (bc := pd') hD8.b hD8.lt (fun x hx => by cases hx) (show 100 ≤ 900000 by decide) ok11 (by decide) (hid rfl) (by decide) hq4 hq5 (fun b off e _ e2 => hq6 b off e (hD8.b.fp b e2))
  rw [show arriveR (2, 1) (hubD ([] : List HubX)) ⟨2, (1, 1), (2, 1), 1, [97]⟩ = _ from exArr] at CA
  have CA := hid CA
  have HD8 := hid hD8
  clear hb8 hbw8 hD8 hR8 hq1 hq2 hq3 hq4 hq5 hq6 he2 he3 HBW7 HD5 RN5 CP HL5 hW7 hcv HP
  go_wp2_with fail
  refine CA.out.mono ?_
  rintro e w9 ⟨v9, rfl, N9, LB, xs9, R9, hLB⟩
  have HD9 := hid (HD8.out.stepB R9.hub)
  have RN9 := hid R9.rowN
  have HL9 := hid hLB
  clear R9 hLB c0 c1 c2 c3 c4 c5 c6 CA HD8
  go_wp2_with fail
  refine (EO.out w9).mono ?_
  rintro e w9a ⟨rfl, hb9a⟩
  have HB9a := hid hb9a
  clear hb9a
  obtain ⟨W10, hW10⟩ : ∃ W10, w9a.alloc (.cells #[.int .u8 97] 5 (1, 2)) = W10 := ⟨_, rfl⟩
  have hcv : (convert 32 32 (.slice (some ⟨w9a.heap.size, 0, none⟩) 1 1)).run Try.prog (w9a.alloc (.cells #[.int .u8 97] 5)) = .ok (.slice (some ⟨w9a.heap.size, 0, none⟩) 1 1) W10 := by
    rw [← hW10]
    exact Go.Joins.run_convert_bytes_const_at w9a 32 5 #[.int .u8 97] 1 1 w9a.heap.size rfl Try.underlying32 Try.underlying5
  have hb10 : Below w9a.heap.size w9a W10 := by rw [← hW10]; exact (Below.refl _ _).alloc (Nat.le_refl _) _
  have hr10 : ByteRow W10 (some ⟨w9a.heap.size, 0, none⟩) [97] := by rw [← hW10]; exact byte_oneF w9a 97 _
  have hz10 : w9a.heap.size < W10.heap.size := by rw [← hW10]; simp
  obtain ⟨W11, hW11⟩ : ∃ W11, W10.alloc (.cells #[.int .u16 1, .int .u32 1, .slice (some ⟨w9a.heap.size, 0, none⟩) 1 1] 43) = W11 := ⟨_, rfl⟩
  have hb11 : Below W10.heap.size W10 W11 := by rw [← hW11]; exact (Below.refl _ _).alloc (Nat.le_refl _) _
  have hrk : RowK W11 3 (.slice (some ⟨W10.heap.size, 0, none⟩) 1 1) [[.int .u16 1, .int .u32 1, .slice (some ⟨w9a.heap.size, 0, none⟩) 1 1]] := by
    rw [← hW11]
    exact RowK.one (by simp) (cells3_new W10 _ _ _ _)
  have hek : ElsAt W11 (fun _ => False) [[.int .u16 1, .int .u32 1, .slice (some ⟨w9a.heap.size, 0, none⟩) 1 1]] [gotC (1, 1) [97]] :=
    ElsAt.one (q := [.int .u16 1, .int .u32 1]) (item_one (hr10.ext hb11) (Nat.lt_of_lt_of_le hz10 hb11.size) id)
  have hbw11 : Below w9.heap.size w9 W11 := HB9a.out.trans ((hb10.trans (hb11.mono hb10.size)).mono HB9a.out.size)
  have RN11 := RN9.out.ext hbw11
  have CG := hid (sameGt_true (pk := [((1, 1), [97])]) RN11.row RN11.els hrk hek (by decide))
  have HBW11 := hid hbw11
  clear hb10 hr10 hz10 hb11 hrk hek hbw11 RN11 hW10 HB9a
  go_wp2_with fail
  refine CG.out.mono ?_
  rintro e w12 ⟨rfl, hb12⟩
  have hbw12 : Below w9.heap.size w9 w12 := HBW11.out.trans (hb12.mono HBW11.out.size)
  have hD12 := HD9.out.ext hbw12
  have CO := hout_any hD12.b hD12.lt (fit_one HL9.out (fit_ex (by decide) (by decide) (by decide))) (by decide)
  rw [HL9.out, exOut2] at CO
  have CO := hid CO
  have HD12 := hid hD12
  clear hb12 hbw12 hD12 HBW11 HD9 RN9 HL9 CG hcv hW11
  go_wp2_with fail
  refine CO.out.mono ?_
  rintro e w13 ⟨v13, rfl, LB13, xs13, R13, hLB13⟩
  have HD13 := hid (HD12.out.stepB R13.hub)
  have RN13 := hid (R13.rowN HD12.out.lt)
  clear R13 hLB13 CO HD12
  go_wp2_with fail
  refine (ET.out w13).mono ?_
  rintro e w13a ⟨rfl, hb13a⟩
  have HB13a := hid hb13a
  clear hb13a
  go_wp2_with fail
  refine (EO.out w13a).mono ?_
  rintro e w13b ⟨rfl, hb13b⟩
  have HB13b := hid (HB13a.out.trans (hb13b.mono HB13a.out.size))
  clear hb13b HB13a
  obtain ⟨W14, hW14⟩ : ∃ W14, w13b.alloc (.cells #[.int .i64 3, .int .u16 2, .int .u32 1, .int .u16 1, .int .u32 1, .int .u64 1, .slice none 0 0] 41) = W14 := ⟨_, rfl⟩
  have hb14 : Below w13b.heap.size w13b W14 := by rw [← hW14]; exact (Below.refl _ _).alloc (Nat.le_refl _) _
  have hrk : RowK W14 7 (.slice (some ⟨w13b.heap.size, 0, none⟩) 1 1) [[.int .i64 3, .int .u16 2, .int .u32 1, .int .u16 1, .int .u32 1, .int .u64 1, .slice none 0 0]] := by
    rw [← hW14]
    exact RowK.one (by simp) (cells7_new w13b _ _ _ _ _ _ _ _)
  have hek : ElsAt W14 (fun _ => False) [[.int .i64 3, .int .u16 2, .int .u32 1, .int .u16 1, .int .u32 1, .int .u64 1, .slice none 0 0]] [packC ⟨3, (2, 1), (1, 1), 1, []⟩] :=
    ElsAt.one (q := [.int .i64 3, .int .u16 2, .int .u32 1, .int .u16 1, .int .u32 1, .int .u64 1]) (ItemAt.none _ _)
  have hbw14 : Below w13.heap.size w13 W14 := HB13b.out.trans (hb14.mono HB13b.out.size)
  have RN14 := RN13.out.ext hbw14
  have CP := hid (samePk_true (pk := [⟨3, (2, 1), (1, 1), 1, []⟩]) RN14.row RN14.els hrk hek (by decide))
  have HBW14 := hid hbw14
  clear hb14 hrk hek hbw14 RN14 HB13b
  go_wp2_with fail
  refine CP.out.mono ?_
  rintro e w15 ⟨rfl, hb15⟩
  go_wp2_with fail
  go_ret
  exact ⟨rfl, (HD13.out.ext (HBW14.out.trans (hb15.mono HBW14.out.size))).below⟩
end Go.Proofs.Ytidohmpnefcpcaa

namespace Go.Proofs.Ytidohmpnefcpcaa
open Go.RowKit Go.Deep Go.Joins Go.ChangeShapes
/-! ### from the row's reading to packets, lists of bytes, truths, acts of the hub -/
/-- every slice and string in a datum is within the form's reach -/
def Sz {H : Type} (t : TypeId) (d : DataW H) : Prop := ∀ n ∈ d.weights Try.prog t, n ≤ reachBytes
theorem mem_weightsAll {H : Type} {e : TypeId} {d : DataW H} : ∀ {l : List (DataW H)}, d ∈ l → ∀ n ∈ d.weights Try.prog e, n ∈ DataW.weightsAll Try.prog e l
  | x :: l, h, n, hn => by
    simp only [DataW.weightsAll, List.mem_append]
    rcases List.mem_cons.1 h with rfl | h
    · exact .inl hn
    · exact .inr (mem_weightsAll h n hn)
theorem Sz.slice {H : Type} {t e : TypeId} {elems spare : List (DataW H)} (h : Sz t (.slice elems spare)) (ht : Try.prog.underlying t = some (.slice e)) :
    (elems.length + spare.length) * Try.prog.bytesOf e ≤ reachBytes ∧ (∀ d ∈ elems, Sz e d) := by
  have hw : ∀ n, n ∈ (DataW.slice elems spare).weights Try.prog t ↔ n = (elems.length + spare.length) * Try.prog.bytesOf e ∨ n ∈ DataW.weightsAll Try.prog e elems ∨ n ∈ DataW.weightsAll Try.prog e spare := by
    intro n; simp [DataW.weights, ht]
  exact ⟨h _ ((hw _).2 (.inl rfl)), fun d hd n hn => h n ((hw _).2 (.inr (.inl (mem_weightsAll hd n hn))))⟩
theorem cellsPid : Try.prog.cellsOf 30 = 2 := by kernel_rfl
theorem cellsU16 : Try.prog.cellsOf 27 = 1 := by kernel_rfl
theorem cellsU32 : Try.prog.cellsOf 28 = 1 := by kernel_rfl
theorem cellsU64 : Try.prog.cellsOf 39 = 1 := by kernel_rfl
theorem cellsU8 : Try.prog.cellsOf 5 = 1 := by kernel_rfl
theorem cellsInt : Try.prog.cellsOf 3 = 1 := by kernel_rfl
theorem cellsBytes : Try.prog.cellsOf 32 = 1 := by kernel_rfl
theorem cellsPack : Try.prog.cellsOf 41 = 7 := by kernel_rfl
theorem list2 {α : Type} {cs : List α} (h : cs.length = 2) : ∃ c0 c1, cs = [c0, c1] := by
  match cs, h with
  | [c0, c1], _ => exact ⟨c0, c1, rfl⟩
section
variable {H : Type} {enc : TypeId × Value → H} {w : World}
theorem open_pid {n : Nat} {cs : List Value} {x : DataW H × List MemPlace} (h : DataW.trod enc Try.prog w 0 (fun _ => true) true n 30 cs = some x) :
    ∃ i c : Int, cs = [.int .u16 i, .int .u32 c] ∧ 0 ≤ i ∧ i < 65536 ∧ 0 ≤ c ∧ c < 4294967296 := by
  obtain ⟨y0, y1, m, _, hl, h0, h1⟩ := trod_struct2 Try.underlying30 h
  rw [cellsPid] at hl
  obtain ⟨c0, c1, rfl⟩ := list2 hl
  have e0 : (([c0, c1] : List Value).drop 0).take (Try.prog.cellsOf 27) = [c0] := by rw [cellsU16]; rfl
  have e1 : (([c0, c1] : List Value).drop 1).take (Try.prog.cellsOf 28) = [c1] := by rw [cellsU32]; rfl
  obtain ⟨i, hi, _, wi⟩ := DataW.trod_int Try.underlying27 (e0 ▸ h0)
  obtain ⟨c, hc, _, wc⟩ := DataW.trod_int Try.underlying28 (e1 ▸ h1)
  cases hi; cases hc
  have b0 := bounds_u16 wi
  have b1 := bounds_u32 wc
  exact ⟨i, c, rfl, b0.1, by omega, b1.1, by omega⟩

set_option maxRecDepth 100000 in
theorem open_bytesK {n : Nat} {cs : List Value} {x : DataW H × List MemPlace} (h : DataW.trod enc Try.prog w 0 (fun _ => true) true n 32 cs = some x) :
    ∃ (a : Option Addr) (c : Nat) (bs : List Nat), cs = [.slice a bs.length c] ∧ ByteRow w a bs ∧ (∀ b ∈ bs, b < 256) ∧ bs.length ≤ c := by
  rcases open_ints (x := x) Try.underlying32 Try.underlying5 cellsU8 h with ⟨hcs, _⟩ | ⟨a, len, cap, zs, hcs, _, hl, hm, hz, hx, hcell, hwf⟩
  · exact ⟨none, 0, [], hcs, .inl rfl, (by intro x hx; cases hx), Nat.le_refl _⟩
  · simp only [if_true] at hz
    have hzl : ((zs.take len).map Int.toNat).length = len := by simp; omega
    have hb : ∀ z ∈ zs, 0 ≤ z ∧ z ≤ 255 := fun z hz => bounds_u8 (hwf z hz)
    refine ⟨some a, cap, (zs.take len).map Int.toNat, by rw [hzl, hcs], ?_, ?_, by rw [hzl]; exact hl⟩
    · by_cases h0 : len = 0
      · subst h0; exact .inl (by simp)
      · have ha := hcell 0 (by omega)
        have hsp : a.spot = none := by simpa [Addr.add] using World.cell?_spot ha
        obtain ⟨b, off, sp⟩ := a
        simp only at hsp
        subst hsp
        refine .inr ⟨b, off, rfl, ?_, fun i hi => ?_⟩
        · have := World.block_lt_of_cell? w _ ha
          simpa [addr_addB] using this
        · have hi2 : i < len := by rw [hzl] at hi; exact hi
          have g := hcell i (by omega)
          rw [addr_addB] at g
          rw [g]
          have hzi : i < zs.length := by omega
          have hbz := hb zs[i] (List.getElem_mem _)
          simp only [List.getElem_map, List.getElem_take, List.getD_eq_getElem?_getD, List.getElem?_eq_getElem hzi, Option.getD_some]
          congr 2; omega
    · intro x hx'
      obtain ⟨z, hz1, rfl⟩ := List.mem_map.1 hx'
      have := hb z (List.mem_of_mem_take hz1)
      omega
set_option maxRecDepth 100000 in
theorem open_bytesC {base : Nat} {v : Value} {d : DataW H} {p : List MemPlace} (hv : Value.okWide Try.prog w .any base 32 v) (h : DataW.Trod enc Try.prog w 0 (fun _ => true) true 32 v d p) :
    ∃ (a : Option Addr) (c : Nat) (bs : List Nat), v = .slice a bs.length c ∧ ByteRow w a bs ∧ (∀ b ∈ bs, b < 256) ∧ bs.length ≤ c := by
  obtain ⟨a0, len0, cap0, rfl⟩ := Go.WideShapes.okWide_slice Try.underlying32 hv
  obtain ⟨fuel, hf⟩ := h
  obtain ⟨a, c, bs, hcs, hr, hb, hc⟩ := open_bytesK (x := (d, p)) hf
  exact ⟨a, c, bs, (List.cons.inj hcs).1, hr, hb, hc⟩
set_option maxRecDepth 100000 in
theorem open_pidO {base : Nat} {v : Value} {d : DataW H} {p : List MemPlace} (hv : Value.okWide Try.prog w .any base 30 v) (h : DataW.Trod enc Try.prog w 0 (fun _ => true) true 30 v d p) :
    ∃ x y : Int, v = .agg #[.int .u16 x, .int .u32 y] ∧ ok (x, y) := by
  obtain ⟨cs, rfl, hsz⟩ := Go.WideShapes.okWide_struct Try.underlying30 hv
  obtain ⟨fuel, hf⟩ := h
  obtain ⟨x, y, hcs, h1, h2, h3, h4⟩ := open_pid (x := (d, p)) hf
  refine ⟨x, y, ?_, h1, h2, h3, h4⟩
  simp only [Value.cells] at hcs
  rw [← Array.toArray_toList (xs := cs), hcs]
end
/-- a packet as data -/
structure PackX where
  k : Int
  f : Pid
  t : Pid
  q : Nat
  b : List Nat
set_option maxRecDepth 100000 in
structure PackOk (w : World) (a : Option Addr) (x : PackX) : Prop where
  kk : -9223372036854775808 ≤ x.k ∧ x.k ≤ 9223372036854775807
  ff : ok x.f
  tt : ok x.t
  qq : x.q < 18446744073709551616
  rr : ByteRow w a x.b
  bb : ∀ c ∈ x.b, c < 256
set_option maxRecDepth 100000 in
theorem PackOk.ext {w w' : World} {a : Option Addr} {x : PackX} (h : PackOk w a x) (hb : Below w.heap.size w w') : PackOk w' a x := ⟨h.kk, h.ff, h.tt, h.qq, h.rr.ext hb, h.bb⟩
def packL (x : PackX) (a : Option Addr) (c : Nat) : List Value := [.int .i64 x.k, .int .u16 x.f.1, .int .u32 x.f.2, .int .u16 x.t.1, .int .u32 x.t.2, .int .u64 x.q, .slice a x.b.length c]
theorem list7 {α : Type} {cs : List α} (h : cs.length = 7) : ∃ c0 c1 c2 c3 c4 c5 c6, cs = [c0, c1, c2, c3, c4, c5, c6] := by
  match cs, h with
  | [c0, c1, c2, c3, c4, c5, c6], _ => exact ⟨c0, c1, c2, c3, c4, c5, c6, rfl⟩
theorem trod_struct5 {H : Type} {enc : TypeId × Value → H} {P : Program} {w : World} {base : Nat} {spare : Nat → Bool} {held : Bool} {t : TypeId} {f0 f1 f2 f3 f4 : Field} {fuel : Nat} {cs : List Value} {x : DataW H × List MemPlace} (ht : P.underlying t = some (.struct #[f0, f1, f2, f3, f4])) (h : DataW.trod enc P w base spare held fuel t cs = some x) :
    ∃ y0 y1 y2 y3 y4 n, x.1 = .agg [y0.1, y1.1, y2.1, y3.1, y4.1] ∧ cs.length = P.cellsOf t ∧ DataW.trod enc P w base spare held n f0.type ((cs.drop f0.offset).take (P.cellsOf f0.type)) = some y0 ∧ DataW.trod enc P w base spare held n f1.type ((cs.drop f1.offset).take (P.cellsOf f1.type)) = some y1 ∧ DataW.trod enc P w base spare held n f2.type ((cs.drop f2.offset).take (P.cellsOf f2.type)) = some y2 ∧ DataW.trod enc P w base spare held n f3.type ((cs.drop f3.offset).take (P.cellsOf f3.type)) = some y3 ∧ DataW.trod enc P w base spare held n f4.type ((cs.drop f4.offset).take (P.cellsOf f4.type)) = some y4 := by
  obtain ⟨xs, n, _, rfl, hl, hlen, hf⟩ := DataW.trod_struct ht h
  match xs, hlen with
  | [y0, y1, y2, y3, y4], _ => exact ⟨y0, y1, y2, y3, y4, n, by simp, hl, by simpa using hf 0 f0 rfl, by simpa using hf 1 f1 rfl, by simpa using hf 2 f2 rfl, by simpa using hf 3 f3 rfl, by simpa using hf 4 f4 rfl⟩
section
variable {H : Type} {enc : TypeId × Value → H} {w : World}
set_option maxRecDepth 100000 in
theorem open_packL {n : Nat} {cs : List Value} {x : DataW H × List MemPlace} (h : DataW.trod enc Try.prog w 0 (fun _ => true) true n 41 cs = some x) :
    ∃ (X : PackX) (a : Option Addr) (c : Nat), cs = packL X a c ∧ PackOk w a X := by
  obtain ⟨y0, y1, y2, y3, y4, m, hx, hl, h0, h1, h2, h3, h4⟩ := trod_struct5 Try.underlying41 h
  rw [cellsPack] at hl
  obtain ⟨v0, v1, v2, v3, v4, v5, v6, rfl⟩ := list7 hl
  have e0 : (([v0, v1, v2, v3, v4, v5, v6] : List Value).drop 0).take (Try.prog.cellsOf 3) = [v0] := by rw [cellsInt]; rfl
  have e1 : (([v0, v1, v2, v3, v4, v5, v6] : List Value).drop 1).take (Try.prog.cellsOf 30) = [v1, v2] := by rw [cellsPid]; rfl
  have e2 : (([v0, v1, v2, v3, v4, v5, v6] : List Value).drop 3).take (Try.prog.cellsOf 30) = [v3, v4] := by rw [cellsPid]; rfl
  have e3 : (([v0, v1, v2, v3, v4, v5, v6] : List Value).drop 5).take (Try.prog.cellsOf 39) = [v5] := by rw [cellsU64]; rfl
  have e4 : (([v0, v1, v2, v3, v4, v5, v6] : List Value).drop 6).take (Try.prog.cellsOf 32) = [v6] := by rw [cellsBytes]; rfl
  have h0 := e0 ▸ h0
  have h1 := e1 ▸ h1
  have h2 := e2 ▸ h2
  have h3 := e3 ▸ h3
  have h4 := e4 ▸ h4
  obtain ⟨i0, hi0, _, wi0⟩ := DataW.trod_int Try.underlying3 h0
  obtain ⟨f1, f2, hp1, a1, a2, a3, a4⟩ := open_pid (x := y1) h1
  obtain ⟨t1, t2, hp2, b1, b2, b3, b4⟩ := open_pid (x := y2) h2
  obtain ⟨i3, hi3, _, wi3⟩ := DataW.trod_int Try.underlying39 h3
  obtain ⟨a, c, bs, hcs, hr, hb, -⟩ := open_bytesK (x := y4) h4
  cases hi0; cases hi3; cases hcs
  injection hp1 with hp1 hp1'
  injection hp1' with hp1' _
  injection hp2 with hp2 hp2'
  injection hp2' with hp2' _
  subst hp1; subst hp1'; subst hp2; subst hp2'
  have k0 := bounds_i64 wi0
  have k3 := bounds_u64 wi3
  obtain ⟨q, rfl⟩ : ∃ k : Nat, i3 = (k : Int) := ⟨i3.toNat, by omega⟩
  exact ⟨⟨i0, (f1, f2), (t1, t2), q, bs⟩, a, c, rfl, ⟨⟨by simp only; omega, by simp only; omega⟩, ⟨a1, a2, a3, a4⟩, ⟨b1, b2, b3, b4⟩, by simp only; omega, hr, hb⟩⟩
set_option maxRecDepth 100000 in
theorem open_packet {base : Nat} {v : Value} {d : DataW H} {p : List MemPlace} (hv : Value.okWide Try.prog w .any base 41 v) (h : DataW.Trod enc Try.prog w 0 (fun _ => true) true 41 v d p) :
    ∃ (X : PackX) (a : Option Addr) (c : Nat), v = .agg (packL X a c).toArray ∧ PackOk w a X := by
  obtain ⟨cs, rfl, hsz⟩ := Go.WideShapes.okWide_struct Try.underlying41 hv
  obtain ⟨fuel, hf⟩ := h
  obtain ⟨X, a, c, hcs, hB⟩ := open_packL (x := (d, p)) hf
  exact ⟨X, a, c, by rw [← Array.toArray_toList (xs := cs)]; simp only [Value.cells] at hcs; rw [hcs], hB⟩
end
end Go.Proofs.Ytidohmpnefcpcaa

namespace Go.Proofs.Ytidohmpnefcpcaa
open Go.RowKit
/-! ### the law HubNil -/
theorem mayR_B {p : Pid} (h : ok p) : mayR p = mayB p := by
  obtain ⟨h1, h2, h3, h4⟩ := h
  unfold mayR mayB
  have e : decide (0 < p.2) = (p.2 != 0) := by
    by_cases h0 : p.2 = 0
    · rw [h0]; rfl
    · rw [decide_eq_true (by omega)]; simp [h0]
  rw [e]
set_option maxRecDepth 100000 in
set_option maxHeartbeats 6400000 in
theorem hubNil_law {W : World} {X : PackX} {a : Option Addr} {c : Nat} {x y : Int} {ba : Option Addr} {bc : Nat} {ys : List Nat} (_ : PackOk W a X) (hok : ok (x, y)) (_ : ByteRow W ba ys) (_ : ∀ b ∈ ys, b < 256) (_ : ys.length ≤ bc) :
    Calls Try.prog 5 #[.agg (packL X a c).toArray, .agg #[.int .u16 x, .int .u32 y], .slice ba ys.length bc] W fun e w' => e = .returned (.bool true) ∧ Below W.heap.size W w' := by
  obtain ⟨n, hn⟩ : ∃ n, ys.length = n := ⟨_, rfl⟩
  rw [hn]
  clear hn
  obtain ⟨k, ⟨f1, f2⟩, ⟨t1, t2⟩, q, bs⟩ := X
  obtain ⟨m, hm⟩ : ∃ m, bs.length = m := ⟨_, rfl⟩
  simp only [packL, hm]
  clear hm
  obtain ⟨W1, hW1⟩ : ∃ W1, W.alloc (.cells #[.int .i64 k, .int .u16 f1, .int .u32 f2, .int .u16 t1, .int .u32 t2, .int .u64 q, .slice a m c] 41) = W1 := ⟨_, rfl⟩
  obtain ⟨W2, hW2⟩ : ∃ W2, W1.alloc (.cells #[.int .u16 x, .int .u32 y] 30) = W2 := ⟨_, rfl⟩
  have hb2 : Below W.heap.size W W2 := by rw [← hW2, ← hW1]; exact ((Below.refl _ _).alloc (Nat.le_refl _) _).alloc (by simp) _
  have p0 : W2.cell? ⟨W.heap.size, 0, none⟩ = some (.int .i64 k) := by rw [← hW2, World.cell?_alloc_past _ _ _ (by rw [← hW1]; simp), ← hW1]; simp
  have p1 : W2.cell? ⟨W.heap.size, 1, none⟩ = some (.int .u16 f1) := by rw [← hW2, World.cell?_alloc_past _ _ _ (by rw [← hW1]; simp), ← hW1]; simp
  have p2 : W2.cell? ⟨W.heap.size, 2, none⟩ = some (.int .u32 f2) := by rw [← hW2, World.cell?_alloc_past _ _ _ (by rw [← hW1]; simp), ← hW1]; simp
  have p3 : W2.cell? ⟨W.heap.size, 3, none⟩ = some (.int .u16 t1) := by rw [← hW2, World.cell?_alloc_past _ _ _ (by rw [← hW1]; simp), ← hW1]; simp
  have p4 : W2.cell? ⟨W.heap.size, 4, none⟩ = some (.int .u32 t2) := by rw [← hW2, World.cell?_alloc_past _ _ _ (by rw [← hW1]; simp), ← hW1]; simp
  have p5 : W2.cell? ⟨W.heap.size, 5, none⟩ = some (.int .u64 q) := by rw [← hW2, World.cell?_alloc_past _ _ _ (by rw [← hW1]; simp), ← hW1]; simp
  have p6 : W2.cell? ⟨W.heap.size, 6, none⟩ = some (.slice a m c) := by rw [← hW2, World.cell?_alloc_past _ _ _ (by rw [← hW1]; simp), ← hW1]; simp
  have d0 : W2.cell? ⟨W1.heap.size, 0, none⟩ = some (.int .u16 x) := by rw [← hW2]; simp
  have d1 : W2.cell? ⟨W1.heap.size, 1, none⟩ = some (.int .u32 y) := by rw [← hW2]; simp
  have HB2 := hid hb2
  have CELLS : Hid (∀ w', Below W2.heap.size W2 w' → w'.cell? ⟨W.heap.size, 0, none⟩ = some (.int .i64 k) ∧ w'.cell? ⟨W.heap.size, 1, none⟩ = some (.int .u16 f1) ∧ w'.cell? ⟨W.heap.size, 2, none⟩ = some (.int .u32 f2) ∧ w'.cell? ⟨W.heap.size, 3, none⟩ = some (.int .u16 t1) ∧ w'.cell? ⟨W.heap.size, 4, none⟩ = some (.int .u32 t2) ∧ w'.cell? ⟨W.heap.size, 5, none⟩ = some (.int .u64 q) ∧ w'.cell? ⟨W.heap.size, 6, none⟩ = some (.slice a m c) ∧ w'.cell? ⟨W1.heap.size, 0, none⟩ = some (.int .u16 x) ∧ w'.cell? ⟨W1.heap.size, 1, none⟩ = some (.int .u32 y)) := hid fun w' hb =>
    ⟨cell_toB p0 hb, cell_toB p1 hb, cell_toB p2 hb, cell_toB p3 hb, cell_toB p4 hb, cell_toB p5 hb, cell_toB p6 hb, cell_toB d0 hb, cell_toB d1 hb⟩
  obtain ⟨bm, hbm⟩ : ∃ bm, mayB (x, y) = bm := ⟨_, rfl⟩
  have HBM := hid hbm
  have CR := hid (mayR_is (x := x) (y := y) (w := W2) (hid (show mayR (x, y) = bm by rw [mayR_B hok]; exact hbm)))
  clear p0 p1 p2 p3 p4 p5 p6 hb2 hbm
  go_enter Try.func5, Try.ntmps5
  go_wp2_with fail
  refine CR.out.mono ?_
  rintro e w3 ⟨rfl, hb3⟩
  have HB3 := hid hb3
  obtain ⟨e1, e2, e3, e4, e5, e6, e7, e8, e9⟩ := CELLS.out w3 hb3
  clear hb3 d0 d1 CR hW2 hW1
  have CS0 := hsend_nil x y (.slice ba n bc) w3
  rw [HBM.out] at CS0
  cases bm
  · have CS := hid CS0
    clear CS0
    go_wp2_with fail
    refine (htick_nil w3).mono ?_
    rintro e w3' ⟨rfl, rfl⟩
    go_wp2_with fail
    refine CS.out.mono ?_
    rintro e w4 ⟨rfl, hb4⟩
    have HB4 := hid (HB3.out.trans (hb4.mono HB3.out.size))
    obtain ⟨e1, e2, e3, e4, e5, e6, e7, e8, e9⟩ := CELLS.out w4 HB4.out
    clear hb4 CS
    go_wp2_with fail
    refine (harrive_nil k f1 f2 t1 t2 q a m c w4).mono ?_
    rintro e w5 ⟨rfl, hb5⟩
    have HB5 := hid (HB4.out.trans (hb5.mono HB4.out.size))
    obtain ⟨e1, e2, e3, e4, e5, e6, e7, e8, e9⟩ := CELLS.out w5 HB5.out
    clear hb5
    go_wp2_with fail
    refine (hout_nil w5).mono ?_
    rintro e w5' ⟨rfl, rfl⟩
    go_wp2_with fail
    refine (hdrop_nil x y w5').mono ?_
    rintro e w6 ⟨rfl, hb6⟩
    have HB6 := hid (HB5.out.trans (hb6.mono HB5.out.size))
    obtain ⟨e1, e2, e3, e4, e5, e6, e7, e8, e9⟩ := CELLS.out w6 HB6.out
    clear hb6
    go_wp2_with fail
    refine (hpeers_nil w6).mono ?_
    rintro e w6' ⟨rfl, rfl⟩
    go_wp2_with fail
    refine (hwaits_nil x y w6').mono ?_
    rintro e w7 ⟨rfl, hb7⟩
    have HB7 := hid (HB6.out.trans (hb7.mono HB6.out.size))
    clear hb7
    go_wp2_with fail
    refine (awake_any w7).mono ?_
    rintro e w8 ⟨rfl, hb8⟩
    have HB8 := hid (HB7.out.trans (hb8.mono HB7.out.size))
    clear hb8
    go_wp2_with fail
    go_ret
    exact ⟨rfl, HB2.out.trans (HB8.out.mono HB2.out.size)⟩
  · have CS := hid CS0
    clear CS0
    go_wp2_with fail
    refine (htick_nil w3).mono ?_
    rintro e w3' ⟨rfl, rfl⟩
    go_wp2_with fail
    refine CS.out.mono ?_
    rintro e w4 ⟨rfl, hb4⟩
    have HB4 := hid (HB3.out.trans (hb4.mono HB3.out.size))
    obtain ⟨e1, e2, e3, e4, e5, e6, e7, e8, e9⟩ := CELLS.out w4 HB4.out
    clear hb4 CS
    go_wp2_with fail
    refine (harrive_nil k f1 f2 t1 t2 q a m c w4).mono ?_
    rintro e w5 ⟨rfl, hb5⟩
    have HB5 := hid (HB4.out.trans (hb5.mono HB4.out.size))
    obtain ⟨e1, e2, e3, e4, e5, e6, e7, e8, e9⟩ := CELLS.out w5 HB5.out
    clear hb5
    go_wp2_with fail
    refine (hout_nil w5).mono ?_
    rintro e w5' ⟨rfl, rfl⟩
    go_wp2_with fail
    refine (hdrop_nil x y w5').mono ?_
    rintro e w6 ⟨rfl, hb6⟩
    have HB6 := hid (HB5.out.trans (hb6.mono HB5.out.size))
    obtain ⟨e1, e2, e3, e4, e5, e6, e7, e8, e9⟩ := CELLS.out w6 HB6.out
    clear hb6
    go_wp2_with fail
    refine (hpeers_nil w6).mono ?_
    rintro e w6' ⟨rfl, rfl⟩
    go_wp2_with fail
    refine (hwaits_nil x y w6').mono ?_
    rintro e w7 ⟨rfl, hb7⟩
    have HB7 := hid (HB6.out.trans (hb7.mono HB6.out.size))
    clear hb7
    go_wp2_with fail
    refine (awake_any w7).mono ?_
    rintro e w8 ⟨rfl, hb8⟩
    have HB8 := hid (HB7.out.trans (hb8.mono HB7.out.size))
    clear hb8
    go_wp2_with fail
    go_ret
    exact ⟨rfl, HB2.out.trans (HB8.out.mono HB2.out.size)⟩
end Go.Proofs.Ytidohmpnefcpcaa


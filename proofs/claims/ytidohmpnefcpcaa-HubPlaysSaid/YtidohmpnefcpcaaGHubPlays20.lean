/- Parts of the proof: KM KO KN K15 K16 KP KR K17 K18 K1A. -/
import Derived.Lib.SmallJoins
import Derived.Deep.Slices
import Derived.Deep.Strs
import Derived.SizedLaws
import Derived.ProofKit
import Derived.OpenShut
import Derived.Test.YtidohmpnefcpcaaK14
namespace Go.Proofs.Ytidohmpnefcpcaa
open Go.RowKit
/-! ### two hubs side by side; the document's example -/
theorem RowK.one {w : World} {k b c : Nat} {x : List Value} (hb : b < w.heap.size) (h : ∀ j u, x[j]? = some u → w.cell? ⟨b, j, none⟩ = some u) : RowK w k (.slice (some ⟨b, 0, none⟩) 1 c) [x] :=
  ⟨⟨_, _, rfl⟩, fun i y hi => by
    have h0 : i = 0 := by have := (List.getElem?_eq_some_iff.1 hi).1; simpa using this
    subst h0
    simp at hi; subst hi
    exact ⟨b, c, rfl, hb, fun j u hj => by rw [Nat.zero_mul, Nat.zero_add]; exact h j u hj⟩⟩
theorem ElsAt.one {w : World} {N : Nat → Prop} {q : List Value} {u : Value} {bs : List Nat} (hu : ItemAt w N u bs) : ElsAt w N [q ++ [u]] [(q, bs)] := (ElsAt.nil w N).snoc hu
section
variable {w w' : World} {N N' : Nat → Prop} {h r hb rb : Nat} {sf sb : Pid} {L L' Lb : List HubX}
/-- a hub was called, the other one stays -/
theorem HubR.beside (A : HubR w w' N N' h r sf L L') (H : HubIs w N h r sf L) (B : HubIs w N hb rb sb Lb) (dis : ∀ b, fpH hb rb Lb b → ¬ fpH h r L b) : HubIs w' N' hb rb sb Lb ∧ ∀ b, fpH hb rb Lb b → ¬ fpH h r L' b :=
  ⟨(B.less (N' := N') (fun b e => A.up b (B.fp b e)) A.nw).mut A.mt (fun b _ e => A.up b (H.fp b e)) dis, fun b e e2 => by
    rcases A.fq b e2 with e3 | e3
    · exact dis b e e3
    · have := B.fplt b e; omega⟩
/-- a row that stands in none of the blocks that hubs write -/
structure RowN (w : World) (N : Nat → Prop) (k : Nat) (v : Value) (xs : List (List Value)) (ps : List (List Value × List Nat)) : Prop where
  row : RowK w k v xs
  els : ElsAt w (fun b => N b ∨ v.ownBlock = some b) xs ps
  bl : ∀ g, v.ownBlock = some g → g < w.heap.size ∧ ¬ N g
theorem RowN.step {k : Nat} {v : Value} {xs : List (List Value)} {ps : List (List Value × List Nat)} (R : RowN w N k v xs ps) (A : HubR w w' N N' h r sf L L') (H : HubIs w N h r sf L) : RowN w' N' k v xs ps :=
  ⟨R.row.mut A.mt fun g e e2 => (R.bl g e).2 (H.fp g e2),
   (R.els.grow (N' := fun b => N' b ∨ v.ownBlock = some b) fun b e => by
     rcases e with e | e
     · exact (A.nw b e).elim (fun e => .inl (.inl e)) .inr
     · exact .inl (.inr e)).mut A.mt fun b _ e => .inl (A.up b (H.fp b e)),
   fun g e => ⟨Nat.lt_of_lt_of_le (R.bl g e).1 A.mt.size, fun e2 => by
     rcases A.nw g e2 with e3 | e3
     · exact (R.bl g e).2 e3
     · have := (R.bl g e).1; omega⟩⟩
theorem RowN.ext {k : Nat} {v : Value} {xs : List (List Value)} {ps : List (List Value × List Nat)} (R : RowN w N k v xs ps) (hb : Below w.heap.size w w') : RowN w' N k v xs ps :=
  ⟨R.row.ext hb, R.els.mut (Mut.of_below (F := fun _ => False) hb) fun _ _ e => e.elim, fun g e => ⟨Nat.lt_of_lt_of_le (R.bl g e).1 hb.size, (R.bl g e).2⟩⟩
theorem OutR.rowN {pk : List PackD} {v : Value} {xs : List (List Value)} (R : OutR w w' N h r sf L L' pk v xs) (hN : ∀ b, N b → b < w.heap.size) : RowN w' N 7 v xs (pk.map packC) :=
  ⟨R.row.rowK, R.els, fun g e => ⟨(R.row.blk e).2, fun e2 => by have := (R.row.blk e).1; have := hN g e2; omega⟩⟩
theorem ArrR.rowN {fr : Pid} {ls : List (List Nat)} {v : Value} {xs : List (List Value)} (R : ArrR w w' N N' h r sf L L' fr ls v xs) : RowN w' N' 3 v xs (ls.map (gotC fr)) :=
  ⟨R.row.rowK, R.els, fun g e => ⟨(R.row.blk e).2, R.nv g e⟩⟩
/-- a packet out of a row -/
theorem RowN.pack {pk : List PackD} {v : Value} {xs : List (List Value)} (R : RowN w N 7 v xs (pk.map packC)) {i : Nat} {P : PackD} (hi : pk[i]? = some P) :
    ∃ g c a d, v = .slice (some ⟨g, 0, none⟩) pk.length c ∧ g < w.heap.size ∧ ¬ N g ∧ (∀ j u, [Value.int .i64 P.kind, .int .u16 P.fr.1, .int .u32 P.fr.2, .int .u16 P.dst.1, .int .u32 P.dst.2, .int .u64 P.seq, .slice a P.body.length d][j]? = some u → w.cell? ⟨g, i * 7 + j, none⟩ = some u) ∧
      ByteRow w a P.body ∧ (∀ x ∈ P.body, x < 256) ∧ ∀ b off, a = some ⟨b, off, none⟩ → ¬ N b := by
  have hlt := (List.getElem?_eq_some_iff.1 hi).1
  have hge : pk[i] = P := (List.getElem?_eq_some_iff.1 hi).2
  obtain ⟨u, q1, a, d, e, b1, b2, b3⟩ := R.els.2 i (by rw [List.length_map]; exact hlt)
  rw [List.getElem_map, hge] at q1 e b1 b2
  subst e
  obtain ⟨g, c, e1, e2, e3⟩ := R.row.atk i _ q1
  have hl := R.els.1
  rw [List.length_map] at hl
  rw [hl] at e1
  exact ⟨g, c, a, d, e1, e2, (R.bl g (by rw [e1]; rfl)).2, e3, b1, b2, fun b off ha hn => (b3 b off ha).2 (.inl hn)⟩
theorem RowN.got {fr : Pid} {ls : List (List Nat)} {v : Value} {xs : List (List Value)} (R : RowN w N 3 v xs (ls.map (gotC fr))) {i : Nat} {bs : List Nat} (hi : ls[i]? = some bs) :
    ∃ g c a d, v = .slice (some ⟨g, 0, none⟩) ls.length c ∧ g < w.heap.size ∧ (∀ j u, [Value.int .u16 fr.1, .int .u32 fr.2, .slice a bs.length d][j]? = some u → w.cell? ⟨g, i * 3 + j, none⟩ = some u) ∧ ByteRow w a bs ∧ (∀ x ∈ bs, x < 256) := by
  have hlt := (List.getElem?_eq_some_iff.1 hi).1
  have hge : ls[i] = bs := (List.getElem?_eq_some_iff.1 hi).2
  obtain ⟨u, q1, a, d, e, b1, b2, b3⟩ := R.els.2 i (by rw [List.length_map]; exact hlt)
  rw [List.getElem_map, hge] at q1 e b1 b2
  subst e
  obtain ⟨g, c, e1, e2, e3⟩ := R.row.atk i _ q1
  have hl := R.els.1
  rw [List.length_map] at hl
  rw [hl] at e1
  exact ⟨g, c, a, d, e1, e2, e3, b1, b2⟩
theorem hub_fit {B : Nat} (hD : ∀ y ∈ hubD L, LFit B y.2) : ∀ x ∈ L, LFit B x.d := fun x hx => hD (x.p, x.d) (List.mem_map.2 ⟨x, hx, rfl⟩)
end
theorem results_cellP {P : Program} {fn : Func} {p : Tmp} {ty : TypeId} (h : fn.results = #[.cell p ty]) (tmps : Array Value) (w : World) (b o : Nat) (cs : List Value) (d : TypeDesc)
    (hp : tmps.getD p undef = .pointer (some ⟨b, o, none⟩)) (hc : w.rangeAt b o cs)
    (hu : P.underlying ty = some d) (hd : d.isRow = true) (hi : (P.info? ty).map (·.size) = some cs.length) :
    (results fn tmps).run P w = .ok (.agg cs.toArray) w := by
  have hp' : tmps[p]?.getD undef = .pointer (some ⟨b, o, none⟩) := by simpa using hp
  simp [results, h, hp', asAddr, run_loadVar_mid w b o ty cs d hc hu hd hi]
theorem infoPidS : (Try.prog.info? 30).map (·.size) = some 2 := by kernel_rfl
theorem one_any (w : World) : Calls Try.prog 8 #[] w fun e w' => e = .returned (.agg #[.int .u16 1, .int .u32 1]) ∧ Below w.heap.size w w' := by
  go_enter Try.func8, Try.ntmps8
  go_wp2_with fail
  refine bodyPost_ret (v := .agg ([.int .u16 1, .int .u32 1] : List Value).toArray) (results_cellP (p := 0) (ty := 30) rfl _ _ w.heap.size 0 [.int .u16 1, .int .u32 1] _ rfl ?_ Try.underlying30 rfl infoPidS) rfl ⟨rfl, (Below.refl _ _).alloc (Nat.le_refl _) _⟩
  intro j v hj
  have := cells_two_new w 1 1 j v hj
  rw [addr_add] at this
  exact this
theorem two_any (w : World) : Calls Try.prog 9 #[] w fun e w' => e = .returned (.agg #[.int .u16 2, .int .u32 1]) ∧ Below w.heap.size w w' := by
  go_enter Try.func9, Try.ntmps9
  go_wp2_with fail
  refine bodyPost_ret (v := .agg ([.int .u16 2, .int .u32 1] : List Value).toArray) (results_cellP (p := 0) (ty := 30) rfl _ _ w.heap.size 0 [.int .u16 2, .int .u32 1] _ rfl ?_ Try.underlying30 rfl infoPidS) rfl ⟨rfl, (Below.refl _ _).alloc (Nat.le_refl _) _⟩
  intro j v hj
  have := cells_two_new w 2 1 j v hj
  rw [addr_add] at this
  exact this
def exD (u : Nat) (ow : Bool) (s : SndD) : LnkD := { snd := s, upto := u, held := [], owes := ow }
def exS (l : List (List Nat)) (t e o : Nat) : SndD := { base := 1, wait := l, told := t, ever := e, once := o, more := 0 }
theorem exSend : sendR (1, 1) [] (2, 1) [97] = (0, [((2, 1), exD 0 false (exS [[97]] 0 0 0))]) := by kernel_rfl
theorem exOut : outR (1, 1) [((2, 1), exD 0 false (exS [[97]] 0 0 0))] = ([⟨2, (1, 1), (2, 1), 1, [97]⟩], [((2, 1), exD 0 false (exS [[97]] 1 1 1))]) := by kernel_rfl
theorem exArr : arriveR (2, 1) [] ⟨2, (1, 1), (2, 1), 1, [97]⟩ = ([[97]], [((1, 1), exD 1 true (exS [] 0 0 0))]) := by kernel_rfl
theorem exOut2 : outR (2, 1) [((1, 1), exD 1 true (exS [] 0 0 0))] = ([⟨3, (2, 1), (1, 1), 1, []⟩], [((1, 1), exD 1 false (exS [] 0 0 0))]) := by kernel_rfl
theorem fit_ex {u : Nat} {ow : Bool} {s : SndD} (h1 : s.base + s.wait.length ≤ 100) (h2 : u ≤ 100) (h3 : ∀ b ∈ s.wait, b.length ≤ 4096) : LFit 100 (exD u ow s) := ⟨h1, by show u + 0 ≤ 100; omega, Nat.zero_le _, h3⟩
theorem fit_one {L : List HubX} {p : Pid} {d : LnkD} (h : hubD L = [(p, d)]) (hf : LFit 100 d) : ∀ x ∈ L, LFit 100 x.d := hub_fit fun y hy => by
  rw [h] at hy
  rw [List.mem_singleton.1 hy]
  exact hf
/-- two hubs in one heap, all of it newer than w0 -/
structure Duo (w0 w : World) (N : Nat → Prop) (ha ra : Nat) (pa : Pid) (LA : List HubX) (hb rb : Nat) (pb : Pid) (LB : List HubX) : Prop where
  below : Below w0.heap.size w0 w
  a : HubIs w N ha ra pa LA
  b : HubIs w N hb rb pb LB
  dis : ∀ b, fpH hb rb LB b → ¬ fpH ha ra LA b
  lt : ∀ b, N b → b < w.heap.size
  lo : ∀ b, N b → w0.heap.size ≤ b
section
variable {w0 w w' : World} {N N' : Nat → Prop} {ha ra hb rb : Nat} {pa pb : Pid} {LA LA' LB LB' : List HubX}
theorem Duo.ext (D : Duo w0 w N ha ra pa LA hb rb pb LB) (h : Below w.heap.size w w') : Duo w0 w' N ha ra pa LA hb rb pb LB :=
  ⟨D.below.trans (h.mono D.below.size), D.a.ext h, D.b.ext h, D.dis, fun b e => Nat.lt_of_lt_of_le (D.lt b e) h.size, D.lo⟩
theorem below_mutK {G : Nat → Prop} (h : Below w0.heap.size w0 w) (hm : Mut G w w') (hG : ∀ k, G k → w0.heap.size ≤ k) : Below w0.heap.size w0 w' :=
  h.trans ⟨hm.os, hm.tape, hm.output, hm.size, fun k hk => hm.block k (Nat.lt_of_lt_of_le hk h.size) fun e => by have := hG k e; omega⟩
theorem Duo.stepA (D : Duo w0 w N ha ra pa LA hb rb pb LB) (R : HubR w w' N N' ha ra pa LA LA') : Duo w0 w' N' ha ra pa LA' hb rb pb LB :=
  ⟨below_mutK D.below R.mt fun k e => D.lo k (D.a.fp k e), R.is, (R.beside D.a D.b D.dis).1, (R.beside D.a D.b D.dis).2, R.lt, fun b e => (R.nw b e).elim (D.lo b) fun e => Nat.le_trans D.below.size e⟩
theorem Duo.swap (D : Duo w0 w N ha ra pa LA hb rb pb LB) : Duo w0 w N hb rb pb LB ha ra pa LA := ⟨D.below, D.b, D.a, fun b e e2 => D.dis b e2 e, D.lt, D.lo⟩
theorem Duo.stepB (D : Duo w0 w N ha ra pa LA hb rb pb LB) (R : HubR w w' N N' hb rb pb LB LB') : Duo w0 w' N' ha ra pa LA hb rb pb LB' := (D.swap.stepA R).swap
end
theorem two_new {w0 w1 w2 : World} {ha ra hb rb : Nat} {pa pb : Pid} (hb1 : Below w0.heap.size w0 w1) (HA : HubIs w1 (fun b => False ∨ fpH ha ra [] b) ha ra pa []) (h3 : w0.heap.size ≤ ha) (h4 : w0.heap.size ≤ ra) (hb2 : Below w1.heap.size w1 w2) (HB : HubIs w2 (fun b => (False ∨ fpH ha ra [] b) ∨ fpH hb rb [] b) hb rb pb []) (h1 : w1.heap.size ≤ hb) (h2 : w1.heap.size ≤ rb) :
    ∃ N2, Duo w0 w2 N2 ha ra pa [] hb rb pb [] := by
  have hnew : ∀ b, fpH hb rb [] b → w1.heap.size ≤ b := fun b e => by
    rcases e with e | e | ⟨x, hx, -⟩
    · omega
    · omega
    · cases hx
  have hnew0 : ∀ b, fpH ha ra [] b → w0.heap.size ≤ b := fun b e => by
    rcases e with e | e | ⟨x, hx, -⟩
    · omega
    · omega
    · cases hx
  refine ⟨_, hb1.trans (hb2.mono hb1.size), (HA.less (N' := fun b => (False ∨ fpH ha ra [] b) ∨ fpH hb rb [] b) (fun b e => .inl (HA.fp b e)) (fun b e => e.imp id (hnew b))).ext hb2, HB, fun b e e2 => ?_, fun b e => ?_, fun b e => ?_⟩
  · have := hnew b e; have := HA.fplt b e2; omega
  · rcases e with (e | e) | e
    · exact e.elim
    · exact Nat.lt_of_lt_of_le (HA.fplt b e) hb2.size
    · exact HB.fplt b e
  · rcases e with (e | e) | e
    · exact e.elim
    · exact hnew0 b e
    · exact Nat.le_trans hb1.size (hnew b e)
theorem ok21 : ok (2, 1) := by unfold ok; decide
theorem ok11 : ok (1, 1) := by unfold ok; decide
theorem byte_oneF (w : World) (x : Nat) (fr : Nat × Nat) : ByteRow (w.alloc (.cells #[.int .u8 x] 5 fr)) (some ⟨w.heap.size, 0, none⟩) [x] :=
  .inr ⟨w.heap.size, 0, rfl, by simp, fun i hi => by
    have : i = 0 := by simpa using hi
    subst this
    rw [World.cell?_alloc_mark]; rfl⟩
theorem item_one {w : World} {N : Nat → Prop} {b c : Nat} (hr : ByteRow w (some ⟨b, 0, none⟩) [97]) (hb : b < w.heap.size) (hn : ¬ N b) : ItemAt w N (.slice (some ⟨b, 0, none⟩) 1 c) [97] :=
  ⟨_, _, rfl, hr, by decide, fun b' off e => by cases e; exact ⟨hb, hn⟩⟩
set_option maxRecDepth 100000 in
set_option maxHeartbeats 6400000 in
theorem awake_any (w : World) : Calls Try.prog 6 #[] w fun e w' => e = .returned (.bool true) ∧ Below w.heap.size w w' := by
  have ET := hid two_any
  have EO := hid one_any
  go_enter Try.func6, Try.ntmps6
  go_wp2_with fail
  refine (EO.out w).mono ?_
  rintro e w' ⟨rfl, hb0⟩
  have HB0 := hid hb0
  clear hb0
  go_wp2_with fail
  refine (hnew_any (1, 1) w' (fun _ => False)).mono ?_
  rintro e w1 ⟨ha, ra, rfl, hb1, HA1, hha, hra⟩
  have HB1 := hid hb1
  have HAA := hid HA1
  have HHA := hid (And.intro hha hra)
  clear hb1 HA1 hha hra
  go_wp2_with fail
  refine (ET.out w1).mono ?_
  rintro e w1' ⟨rfl, hb1'⟩
  have HB1' := hid hb1'
  clear hb1'
  go_wp2_with fail
  refine (hnew_any (2, 1) w1' (fun b => False ∨ fpH ha ra [] b)).mono ?_
  rintro e w2 ⟨hb, rb, rfl, hb2, HB2, hhb, hrb⟩
  obtain ⟨N2, D2⟩ := two_new (HB0.out.trans ((HB1.out.trans (HB1'.out.mono HB1.out.size)).mono HB0.out.size)) (HAA.out.ext HB1'.out) (Nat.le_trans HB0.out.size HHA.out.1) (Nat.le_trans HB0.out.size HHA.out.2) hb2 HB2 hhb hrb
  have HD2 := hid D2
  clear hb2 HB2 hhb hrb HAA HB1 HHA HB0 HB1' D2
  go_wp2_with fail
  refine (ET.out w2).mono ?_
  rintro e w2' ⟨rfl, hb2'⟩
  have D2' := HD2.out.ext hb2'
  clear hb2' HD2
  obtain ⟨W3, hW3⟩ : ∃ W3, w2'.alloc (.cells #[.int .u8 97] 5 (1, 2)) = W3 := ⟨_, rfl⟩
  have hb3 : Below w2'.heap.size w2' W3 := by rw [← hW3]; exact (Below.refl _ _).alloc (Nat.le_refl _) _
  have hr3 : ByteRow W3 (some ⟨w2'.heap.size, 0, none⟩) [97] := by rw [← hW3]; exact byte_oneF w2' 97 _
  have hcv : (convert 32 32 (.slice (some ⟨w2'.heap.size, 0, none⟩) 1 1)).run Try.prog (w2'.alloc (.cells #[.int .u8 97] 5)) = .ok (.slice (some ⟨w2'.heap.size, 0, none⟩) 1 1) W3 := by
    rw [← hW3]
    exact Go.Joins.run_convert_bytes_const_at w2' 32 5 #[.int .u8 97] 1 1 w2'.heap.size rfl Try.underlying32 Try.underlying5
  have D3 := D2'.ext hb3
  have CS := hsend_any (bc := 1) (n := 1) (bs := [97]) D3.a D3.lt 2 1 ok21 (hid rfl) (by decide) hr3 (by decide) (fun b off e _ e2 => by
    cases e
    have := D2'.a.fplt _ e2
    omega)
  rw [show sendR (1, 1) (hubD ([] : List HubX)) (2, 1) [97] = _ from exSend] at CS
  have CS := hid CS
  have HD3 := hid D3
  clear hb3 hr3 D2' D3 hW3
  go_wp2_with fail
  refine CS.out.mono ?_
  rintro e w4 ⟨rfl, N4, LA, HR4, hLA⟩
  have D4 := HD3.out.stepA HR4
  have CO := hout_any D4.a D4.lt (fit_one hLA (fit_ex (by decide) (by decide) (by decide))) (by decide)
  rw [hLA, exOut] at CO
  have CO := hid CO
  have HD4 := hid D4
  clear HR4 D4 hLA HD3 CS hcv
  go_wp2_with fail
  refine CO.out.mono ?_
  rintro e w5 ⟨v5, rfl, LA5, xs5, R5, hLA5⟩
  have HD5 := hid (HD4.out.stepA R5.hub)
  have RN5 := hid (R5.rowN HD4.out.lt)
  obtain ⟨pg, pc, pa, pd, rfl, hp1, hp2, hp3, hp4, hp5, hp6⟩ := RN5.out.pack (i := 0) (P := ⟨2, (1, 1), (2, 1), 1, [97]⟩) rfl
  have HP := hid hp3
  have HL5 := hid hLA5
  clear hp1 hp2 hp3 hp4 hp5 hp6 R5 hLA5 HD4 CO
  go_wp2_with fail
  refine (EO.out w5).mono ?_
  rintro e w5a ⟨rfl, hb5a⟩
  have HB5a := hid hb5a
  clear hb5a
  go_wp2_with fail
  refine (ET.out w5a).mono ?_
  rintro e w5b ⟨rfl, hb5b⟩
  have HB5b := hid (HB5a.out.trans (hb5b.mono HB5a.out.size))
  clear hb5b HB5a
  obtain ⟨W6, hW6⟩ : ∃ W6, w5b.alloc (.cells #[.int .u8 97] 5 (1, 2)) = W6 := ⟨_, rfl⟩
  have hcv : (convert 32 32 (.slice (some ⟨w5b.heap.size, 0, none⟩) 1 1)).run Try.prog (w5b.alloc (.cells #[.int .u8 97] 5)) = .ok (.slice (some ⟨w5b.heap.size, 0, none⟩) 1 1) W6 := by
    rw [← hW6]
    exact Go.Joins.run_convert_bytes_const_at w5b 32 5 #[.int .u8 97] 1 1 w5b.heap.size rfl Try.underlying32 Try.underlying5
  have hb6 : Below w5b.heap.size w5b W6 := by rw [← hW6]; exact (Below.refl _ _).alloc (Nat.le_refl _) _
  have hr6 : ByteRow W6 (some ⟨w5b.heap.size, 0, none⟩) [97] := by rw [← hW6]; exact byte_oneF w5b 97 _
  have hz6 : w5b.heap.size < W6.heap.size := by rw [← hW6]; simp
  obtain ⟨W7, hW7⟩ : ∃ W7, W6.alloc (.cells #[.int .i64 2, .int .u16 1, .int .u32 1, .int .u16 2, .int .u32 1, .int .u64 1, .slice (some ⟨w5b.heap.size, 0, none⟩) 1 1] 41) = W7 := ⟨_, rfl⟩
  have hb7 : Below W6.heap.size W6 W7 := by rw [← hW7]; exact (Below.refl _ _).alloc (Nat.le_refl _) _
  have hrk : RowK W7 7 (.slice (some ⟨W6.heap.size, 0, none⟩) 1 1) [[.int .i64 2, .int .u16 1, .int .u32 1, .int .u16 2, .int .u32 1, .int .u64 1, .slice (some ⟨w5b.heap.size, 0, none⟩) 1 1]] := by
    rw [← hW7]
    exact RowK.one (by simp) (cells7_new W6 _ _ _ _ _ _ _ _)
  have hek : ElsAt W7 (fun _ => False) [[.int .i64 2, .int .u16 1, .int .u32 1, .int .u16 2, .int .u32 1, .int .u64 1, .slice (some ⟨w5b.heap.size, 0, none⟩) 1 1]] [packC ⟨2, (1, 1), (2, 1), 1, [97]⟩] :=
    ElsAt.one (q := [.int .i64 2, .int .u16 1, .int .u32 1, .int .u16 2, .int .u32 1, .int .u64 1]) (item_one (hr6.ext hb7) (Nat.lt_of_lt_of_le hz6 hb7.size) id)
  have hbw7 : Below w5.heap.size w5 W7 := HB5b.out.trans ((hb6.trans (hb7.mono hb6.size)).mono HB5b.out.size)
  have RN7 := RN5.out.ext hbw7
  have CP := hid (samePk_true (pk := [⟨2, (1, 1), (2, 1), 1, [97]⟩]) RN7.row RN7.els hrk hek (by decide))
  have HBW7 := hid hbw7
  clear hb6 hr6 hz6 hb7 hrk hek hbw7 RN7 hW6 HB5b
  go_wp2_with fail
  refine CP.out.mono ?_
  rintro e w8 ⟨rfl, hb8⟩
  have hbw8 : Below w5.heap.size w5 w8 := HBW7.out.trans (hb8.mono HBW7.out.size)
  have hD8 := HD5.out.ext hbw8
  have hR8 := RN5.out.ext hbw8
  obtain ⟨pg', pc', pa', pd', he, hq1, hq2, hq3, hq4, hq5, hq6⟩ := hR8.pack (i := 0) (P := ⟨2, (1, 1), (2, 1), 1, [97]⟩) rfl
  injection he with he1 he2 he3
  injection he1 with he1
  injection he1 with he1
  subst he1
  have c0 := hq3 0 _ rfl
  have c1 := hq3 1 _ rfl
  have c2 := hq3 2 _ rfl
  have c3 := hq3 3 _ rfl
  have c4 := hq3 4 _ rfl
  have c5 := hq3 5 _ rfl
  have c6 := hq3 6 _ rfl
  simp only [Nat.zero_mul, Nat.zero_add] at c0 c1 c2 c3 c4 c5 c6
  have CA := harrive_any (kd := 2) (f1 := 1) (f2 := 1) (t1 := 2) (t2 := 1) (sq := 1) (n := 1) (bc := pd') hD8.b hD8.lt (fun x hx => by cases hx) (show 100 ≤ 900000 by decide) ok11 (by decide) (hid rfl) (by decide) hq4 hq5 (fun b off e _ e2 => hq6 b off e (hD8.b.fp b e2))
  rw [show arriveR (2, 1) (hubD ([] : List HubX)) ⟨2, (1, 1), (2, 1), 1, [97]⟩ = _ from exArr] at CA
  have CA := hid CA
  have HD8 := hid hD8
  clear hb8 hbw8 hD8 hR8 hq1 hq2 hq3 hq4 hq5 hq6 he2 he3 HBW7 HD5 RN5 CP HL5 hW7 hcv HP
  go_wp2_with fail
  refine CA.out.mono ?_
  rintro e w9 ⟨v9, rfl, N9, LB, xs9, R9, hLB⟩
  have HD9 := hid (HD8.out.stepB R9.hub)
  have RN9 := hid R9.rowN
  have HL9 := hid hLB
  clear R9 hLB c0 c1 c2 c3 c4 c5 c6 CA HD8
  go_wp2_with fail
  refine (EO.out w9).mono ?_
  rintro e w9a ⟨rfl, hb9a⟩
  have HB9a := hid hb9a
  clear hb9a
  obtain ⟨W10, hW10⟩ : ∃ W10, w9a.alloc (.cells #[.int .u8 97] 5 (1, 2)) = W10 := ⟨_, rfl⟩
  have hcv : (convert 32 32 (.slice (some ⟨w9a.heap.size, 0, none⟩) 1 1)).run Try.prog (w9a.alloc (.cells #[.int .u8 97] 5)) = .ok (.slice (some ⟨w9a.heap.size, 0, none⟩) 1 1) W10 := by
    rw [← hW10]
    exact Go.Joins.run_convert_bytes_const_at w9a 32 5 #[.int .u8 97] 1 1 w9a.heap.size rfl Try.underlying32 Try.underlying5
  have hb10 : Below w9a.heap.size w9a W10 := by rw [← hW10]; exact (Below.refl _ _).alloc (Nat.le_refl _) _
  have hr10 : ByteRow W10 (some ⟨w9a.heap.size, 0, none⟩) [97] := by rw [← hW10]; exact byte_oneF w9a 97 _
  have hz10 : w9a.heap.size < W10.heap.size := by rw [← hW10]; simp
  obtain ⟨W11, hW11⟩ : ∃ W11, W10.alloc (.cells #[.int .u16 1, .int .u32 1, .slice (some ⟨w9a.heap.size, 0, none⟩) 1 1] 43) = W11 := ⟨_, rfl⟩
  have hb11 : Below W10.heap.size W10 W11 := by rw [← hW11]; exact (Below.refl _ _).alloc (Nat.le_refl _) _
  have hrk : RowK W11 3 (.slice (some ⟨W10.heap.size, 0, none⟩) 1 1) [[.int .u16 1, .int .u32 1, .slice (some ⟨w9a.heap.size, 0, none⟩) 1 1]] := by
    rw [← hW11]
    exact RowK.one (by simp) (cells3_new W10 _ _ _ _)
  have hek : ElsAt W11 (fun _ => False) [[.int .u16 1, .int .u32 1, .slice (some ⟨w9a.heap.size, 0, none⟩) 1 1]] [gotC (1, 1) [97]] :=
    ElsAt.one (q := [.int .u16 1, .int .u32 1]) (item_one (hr10.ext hb11) (Nat.lt_of_lt_of_le hz10 hb11.size) id)
  have hbw11 : Below w9.heap.size w9 W11 := HB9a.out.trans ((hb10.trans (hb11.mono hb10.size)).mono HB9a.out.size)
  have RN11 := RN9.out.ext hbw11
  have CG := hid (sameGt_true (pk := [((1, 1), [97])]) RN11.row RN11.els hrk hek (by decide))
  have HBW11 := hid hbw11
  clear hb10 hr10 hz10 hb11 hrk hek hbw11 RN11 hW10 HB9a
  go_wp2_with fail
  refine CG.out.mono ?_
  rintro e w12 ⟨rfl, hb12⟩
  have hbw12 : Below w9.heap.size w9 w12 := HBW11.out.trans (hb12.mono HBW11.out.size)
  have hD12 := HD9.out.ext hbw12
  have CO := hout_any hD12.b hD12.lt (fit_one HL9.out (fit_ex (by decide) (by decide) (by decide))) (by decide)
  rw [HL9.out, exOut2] at CO
  have CO := hid CO
  have HD12 := hid hD12
  clear hb12 hbw12 hD12 HBW11 HD9 RN9 HL9 CG hcv hW11
  go_wp2_with fail
  refine CO.out.mono ?_
  rintro e w13 ⟨v13, rfl, LB13, xs13, R13, hLB13⟩
  have HD13 := hid (HD12.out.stepB R13.hub)
  have RN13 := hid (R13.rowN HD12.out.lt)
  clear R13 hLB13 CO HD12
  go_wp2_with fail
  refine (ET.out w13).mono ?_
  rintro e w13a ⟨rfl, hb13a⟩
  have HB13a := hid hb13a
  clear hb13a
  go_wp2_with fail
  refine (EO.out w13a).mono ?_
  rintro e w13b ⟨rfl, hb13b⟩
  have HB13b := hid (HB13a.out.trans (hb13b.mono HB13a.out.size))
  clear hb13b HB13a
  obtain ⟨W14, hW14⟩ : ∃ W14, w13b.alloc (.cells #[.int .i64 3, .int .u16 2, .int .u32 1, .int .u16 1, .int .u32 1, .int .u64 1, .slice none 0 0] 41) = W14 := ⟨_, rfl⟩
  have hb14 : Below w13b.heap.size w13b W14 := by rw [← hW14]; exact (Below.refl _ _).alloc (Nat.le_refl _) _
  have hrk : RowK W14 7 (.slice (some ⟨w13b.heap.size, 0, none⟩) 1 1) [[.int .i64 3, .int .u16 2, .int .u32 1, .int .u16 1, .int .u32 1, .int .u64 1, .slice none 0 0]] := by
    rw [← hW14]
    exact RowK.one (by simp) (cells7_new w13b _ _ _ _ _ _ _ _)
  have hek : ElsAt W14 (fun _ => False) [[.int .i64 3, .int .u16 2, .int .u32 1, .int .u16 1, .int .u32 1, .int .u64 1, .slice none 0 0]] [packC ⟨3, (2, 1), (1, 1), 1, []⟩] :=
    ElsAt.one (q := [.int .i64 3, .int .u16 2, .int .u32 1, .int .u16 1, .int .u32 1, .int .u64 1]) (ItemAt.none _ _)
  have hbw14 : Below w13.heap.size w13 W14 := HB13b.out.trans (hb14.mono HB13b.out.size)
  have RN14 := RN13.out.ext hbw14
  have CP := hid (samePk_true (pk := [⟨3, (2, 1), (1, 1), 1, []⟩]) RN14.row RN14.els hrk hek (by decide))
  have HBW14 := hid hbw14
  clear hb14 hrk hek hbw14 RN14 HB13b
  go_wp2_with fail
  refine CP.out.mono ?_
  rintro e w15 ⟨rfl, hb15⟩
  go_wp2_with fail
  go_ret
  exact ⟨rfl, (HD13.out.ext (HBW14.out.trans (hb15.mono HBW14.out.size))).below⟩
end Go.Proofs.Ytidohmpnefcpcaa

namespace Go.Proofs.Ytidohmpnefcpcaa
open Go.RowKit Go.Deep Go.Joins Go.ChangeShapes
/-! ### from the row's reading to packets, lists of bytes, truths, acts of the hub -/
/-- every slice and string in a datum is within the form's reach -/
def Sz {H : Type} (t : TypeId) (d : DataW H) : Prop := ∀ n ∈ d.weights Try.prog t, n ≤ reachBytes
theorem mem_weightsAll {H : Type} {e : TypeId} {d : DataW H} : ∀ {l : List (DataW H)}, d ∈ l → ∀ n ∈ d.weights Try.prog e, n ∈ DataW.weightsAll Try.prog e l
  | x :: l, h, n, hn => by
    simp only [DataW.weightsAll, List.mem_append]
    rcases List.mem_cons.1 h with rfl | h
    · exact .inl hn
    · exact .inr (mem_weightsAll h n hn)
theorem Sz.slice {H : Type} {t e : TypeId} {elems spare : List (DataW H)} (h : Sz t (.slice elems spare)) (ht : Try.prog.underlying t = some (.slice e)) :
    (elems.length + spare.length) * Try.prog.bytesOf e ≤ reachBytes ∧ (∀ d ∈ elems, Sz e d) := by
  have hw : ∀ n, n ∈ (DataW.slice elems spare).weights Try.prog t ↔ n = (elems.length + spare.length) * Try.prog.bytesOf e ∨ n ∈ DataW.weightsAll Try.prog e elems ∨ n ∈ DataW.weightsAll Try.prog e spare := by
    intro n; simp [DataW.weights, ht]
  exact ⟨h _ ((hw _).2 (.inl rfl)), fun d hd n hn => h n ((hw _).2 (.inr (.inl (mem_weightsAll hd n hn))))⟩
theorem cellsPid : Try.prog.cellsOf 30 = 2 := by kernel_rfl
theorem cellsU16 : Try.prog.cellsOf 27 = 1 := by kernel_rfl
theorem cellsU32 : Try.prog.cellsOf 28 = 1 := by kernel_rfl
theorem cellsU64 : Try.prog.cellsOf 39 = 1 := by kernel_rfl
theorem cellsU8 : Try.prog.cellsOf 5 = 1 := by kernel_rfl
theorem cellsInt : Try.prog.cellsOf 3 = 1 := by kernel_rfl
theorem cellsBytes : Try.prog.cellsOf 32 = 1 := by kernel_rfl
theorem cellsPack : Try.prog.cellsOf 41 = 7 := by kernel_rfl
theorem list2 {α : Type} {cs : List α} (h : cs.length = 2) : ∃ c0 c1, cs = [c0, c1] := by
  match cs, h with
  | [c0, c1], _ => exact ⟨c0, c1, rfl⟩
section
variable {H : Type} {enc : TypeId × Value → H} {w : World}
theorem open_pid {n : Nat} {cs : List Value} {x : DataW H × List MemPlace} (h : DataW.trod enc Try.prog w 0 (fun _ => true) true n 30 cs = some x) :
    ∃ i c : Int, cs = [.int .u16 i, .int .u32 c] ∧ 0 ≤ i ∧ i < 65536 ∧ 0 ≤ c ∧ c < 4294967296 := by
  obtain ⟨y0, y1, m, _, hl, h0, h1⟩ := trod_struct2 Try.underlying30 h
  rw [cellsPid] at hl
  obtain ⟨c0, c1, rfl⟩ := list2 hl
  have e0 : (([c0, c1] : List Value).drop 0).take (Try.prog.cellsOf 27) = [c0] := by rw [cellsU16]; rfl
  have e1 : (([c0, c1] : List Value).drop 1).take (Try.prog.cellsOf 28) = [c1] := by rw [cellsU32]; rfl
  obtain ⟨i, hi, _, wi⟩ := DataW.trod_int Try.underlying27 (e0 ▸ h0)
  obtain ⟨c, hc, _, wc⟩ := DataW.trod_int Try.underlying28 (e1 ▸ h1)
  cases hi; cases hc
  have b0 := bounds_u16 wi
  have b1 := bounds_u32 wc
  exact ⟨i, c, rfl, b0.1, by omega, b1.1, by omega⟩

set_option maxRecDepth 100000 in
theorem open_bytesK {n : Nat} {cs : List Value} {x : DataW H × List MemPlace} (h : DataW.trod enc Try.prog w 0 (fun _ => true) true n 32 cs = some x) :
    ∃ (a : Option Addr) (c : Nat) (bs : List Nat), cs = [.slice a bs.length c] ∧ ByteRow w a bs ∧ (∀ b ∈ bs, b < 256) ∧ bs.length ≤ c := by
  rcases open_ints (x := x) Try.underlying32 Try.underlying5 cellsU8 h with ⟨hcs, _⟩ | ⟨a, len, cap, zs, hcs, _, hl, hm, hz, hx, hcell, hwf⟩
  · exact ⟨none, 0, [], hcs, .inl rfl, (by intro x hx; cases hx), Nat.le_refl _⟩
  · simp only [if_true] at hz
    have hzl : ((zs.take len).map Int.toNat).length = len := by simp; omega
    have hb : ∀ z ∈ zs, 0 ≤ z ∧ z ≤ 255 := fun z hz => bounds_u8 (hwf z hz)
    refine ⟨some a, cap, (zs.take len).map Int.toNat, by rw [hzl, hcs], ?_, ?_, by rw [hzl]; exact hl⟩
    · by_cases h0 : len = 0
      · subst h0; exact .inl (by simp)
      · have ha := hcell 0 (by omega)
        have hsp : a.spot = none := by simpa [Addr.add] using World.cell?_spot ha
        obtain ⟨b, off, sp⟩ := a
        simp only at hsp
        subst hsp
        refine .inr ⟨b, off, rfl, ?_, fun i hi => ?_⟩
        · have := World.block_lt_of_cell? w _ ha
          simpa [addr_addB] using this
        · have hi2 : i < len := by rw [hzl] at hi; exact hi
          have g := hcell i (by omega)
          rw [addr_addB] at g
          rw [g]
          have hzi : i < zs.length := by omega
          have hbz := hb zs[i] (List.getElem_mem _)
          simp only [List.getElem_map, List.getElem_take, List.getD_eq_getElem?_getD, List.getElem?_eq_getElem hzi, Option.getD_some]
          congr 2; omega
    · intro x hx'
      obtain ⟨z, hz1, rfl⟩ := List.mem_map.1 hx'
      have := hb z (List.mem_of_mem_take hz1)
      omega
set_option maxRecDepth 100000 in
theorem open_pidO {base : Nat} {v : Value} {d : DataW H} {p : List MemPlace} (hv : Value.okWide Try.prog w .any base 30 v) (h : DataW.Trod enc Try.prog w 0 (fun _ => true) true 30 v d p) :
    ∃ x y : Int, v = .agg #[.int .u16 x, .int .u32 y] ∧ ok (x, y) := by
  obtain ⟨cs, rfl, hsz⟩ := Go.WideShapes.okWide_struct Try.underlying30 hv
  obtain ⟨fuel, hf⟩ := h
  obtain ⟨x, y, hcs, h1, h2, h3, h4⟩ := open_pid (x := (d, p)) hf
  refine ⟨x, y, ?_, h1, h2, h3, h4⟩
  simp only [Value.cells] at hcs
  rw [← Array.toArray_toList (xs := cs), hcs]
end
/-- a packet as data -/
structure PackX where
  k : Int
  f : Pid
  t : Pid
  q : Nat
  b : List Nat
set_option maxRecDepth 100000 in
structure PackOk (w : World) (a : Option Addr) (x : PackX) : Prop where
  kk : -9223372036854775808 ≤ x.k ∧ x.k ≤ 9223372036854775807
  ff : ok x.f
  tt : ok x.t
  qq : x.q < 18446744073709551616
  rr : ByteRow w a x.b
  bb : ∀ c ∈ x.b, c < 256
set_option maxRecDepth 100000 in
theorem PackOk.ext {w w' : World} {a : Option Addr} {x : PackX} (h : PackOk w a x) (hb : Below w.heap.size w w') : PackOk w' a x := ⟨h.kk, h.ff, h.tt, h.qq, h.rr.ext hb, h.bb⟩
def packL (x : PackX) (a : Option Addr) (c : Nat) : List Value := [.int .i64 x.k, .int .u16 x.f.1, .int .u32 x.f.2, .int .u16 x.t.1, .int .u32 x.t.2, .int .u64 x.q, .slice a x.b.length c]
theorem list7 {α : Type} {cs : List α} (h : cs.length = 7) : ∃ c0 c1 c2 c3 c4 c5 c6, cs = [c0, c1, c2, c3, c4, c5, c6] := by
  match cs, h with
  | [c0, c1, c2, c3, c4, c5, c6], _ => exact ⟨c0, c1, c2, c3, c4, c5, c6, rfl⟩
theorem trod_struct5 {H : Type} {enc : TypeId × Value → H} {P : Program} {w : World} {base : Nat} {spare : Nat → Bool} {held : Bool} {t : TypeId} {f0 f1 f2 f3 f4 : Field} {fuel : Nat} {cs : List Value} {x : DataW H × List MemPlace} (ht : P.underlying t = some (.struct #[f0, f1, f2, f3, f4])) (h : DataW.trod enc P w base spare held fuel t cs = some x) :
    ∃ y0 y1 y2 y3 y4 n, x.1 = .agg [y0.1, y1.1, y2.1, y3.1, y4.1] ∧ cs.length = P.cellsOf t ∧ DataW.trod enc P w base spare held n f0.type ((cs.drop f0.offset).take (P.cellsOf f0.type)) = some y0 ∧ DataW.trod enc P w base spare held n f1.type ((cs.drop f1.offset).take (P.cellsOf f1.type)) = some y1 ∧ DataW.trod enc P w base spare held n f2.type ((cs.drop f2.offset).take (P.cellsOf f2.type)) = some y2 ∧ DataW.trod enc P w base spare held n f3.type ((cs.drop f3.offset).take (P.cellsOf f3.type)) = some y3 ∧ DataW.trod enc P w base spare held n f4.type ((cs.drop f4.offset).take (P.cellsOf f4.type)) = some y4 := by
  obtain ⟨xs, n, _, rfl, hl, hlen, hf⟩ := DataW.trod_struct ht h
  match xs, hlen with
  | [y0, y1, y2, y3, y4], _ => exact ⟨y0, y1, y2, y3, y4, n, by simp, hl, by simpa using hf 0 f0 rfl, by simpa using hf 1 f1 rfl, by simpa using hf 2 f2 rfl, by simpa using hf 3 f3 rfl, by simpa using hf 4 f4 rfl⟩
section
variable {H : Type} {enc : TypeId × Value → H} {w : World}
set_option maxRecDepth 100000 in
theorem open_packL {n : Nat} {cs : List Value} {x : DataW H × List MemPlace} (h : DataW.trod enc Try.prog w 0 (fun _ => true) true n 41 cs = some x) :
    ∃ (X : PackX) (a : Option Addr) (c : Nat), cs = packL X a c ∧ PackOk w a X := by
  obtain ⟨y0, y1, y2, y3, y4, m, hx, hl, h0, h1, h2, h3, h4⟩ := trod_struct5 Try.underlying41 h
  rw [cellsPack] at hl
  obtain ⟨v0, v1, v2, v3, v4, v5, v6, rfl⟩ := list7 hl
  have e0 : (([v0, v1, v2, v3, v4, v5, v6] : List Value).drop 0).take (Try.prog.cellsOf 3) = [v0] := by rw [cellsInt]; rfl
  have e1 : (([v0, v1, v2, v3, v4, v5, v6] : List Value).drop 1).take (Try.prog.cellsOf 30) = [v1, v2] := by rw [cellsPid]; rfl
  have e2 : (([v0, v1, v2, v3, v4, v5, v6] : List Value).drop 3).take (Try.prog.cellsOf 30) = [v3, v4] := by rw [cellsPid]; rfl
  have e3 : (([v0, v1, v2, v3, v4, v5, v6] : List Value).drop 5).take (Try.prog.cellsOf 39) = [v5] := by rw [cellsU64]; rfl
  have e4 : (([v0, v1, v2, v3, v4, v5, v6] : List Value).drop 6).take (Try.prog.cellsOf 32) = [v6] := by rw [cellsBytes]; rfl
  have h0 := e0 ▸ h0
  have h1 := e1 ▸ h1
  have h2 := e2 ▸ h2
  have h3 := e3 ▸ h3
  have h4 := e4 ▸ h4
  obtain ⟨i0, hi0, _, wi0⟩ := DataW.trod_int Try.underlying3 h0
  obtain ⟨f1, f2, hp1, a1, a2, a3, a4⟩ := open_pid (x := y1) h1
  obtain ⟨t1, t2, hp2, b1, b2, b3, b4⟩ := open_pid (x := y2) h2
  obtain ⟨i3, hi3, _, wi3⟩ := DataW.trod_int Try.underlying39 h3
  obtain ⟨a, c, bs, hcs, hr, hb, -⟩ := open_bytesK (x := y4) h4
  cases hi0; cases hi3; cases hcs
  injection hp1 with hp1 hp1'
  injection hp1' with hp1' _
  injection hp2 with hp2 hp2'
  injection hp2' with hp2' _
  subst hp1; subst hp1'; subst hp2; subst hp2'
  have k0 := bounds_i64 wi0
  have k3 := bounds_u64 wi3
  obtain ⟨q, rfl⟩ : ∃ k : Nat, i3 = (k : Int) := ⟨i3.toNat, by omega⟩
  exact ⟨⟨i0, (f1, f2), (t1, t2), q, bs⟩, a, c, rfl, ⟨⟨by simp only; omega, by simp only; omega⟩, ⟨a1, a2, a3, a4⟩, ⟨b1, b2, b3, b4⟩, by simp only; omega, hr, hb⟩⟩
end
end Go.Proofs.Ytidohmpnefcpcaa

namespace Go.Proofs.Ytidohmpnefcpcaa
open Go.RowKit
/-! ### the law HubNil -/
theorem mayR_B {p : Pid} (h : ok p) : mayR p = mayB p := by
  obtain ⟨h1, h2, h3, h4⟩ := h
  unfold mayR mayB
  have e : decide (0 < p.2) = (p.2 != 0) := by
    by_cases h0 : p.2 = 0
    · rw [h0]; rfl
    · rw [decide_eq_true (by omega)]; simp [h0]
  rw [e]
end Go.Proofs.Ytidohmpnefcpcaa

namespace Go.Proofs.Ytidohmpnefcpcaa
/-! ### both hubs in plain words: they answer alike -/
def itemsR : Nat → List (List Nat) → List (Nat × List Nat)
  | _, [] => []
  | b, x :: l => (b, x) :: itemsR (b + 1) l
theorem itemsR_len : ∀ (b : Nat) (l : List (List Nat)), (itemsR b l).length = l.length
  | _, [] => rfl
  | b, _ :: l => by simp [itemsR, itemsR_len (b + 1) l]
theorem itemsR_snoc (x : List Nat) : ∀ (b : Nat) (l : List (List Nat)), itemsR b (l ++ [x]) = itemsR b l ++ [(b + l.length, x)]
  | b, [] => rfl
  | b, y :: l => by
    have := itemsR_snoc x (b + 1) l
    simp only [List.cons_append, itemsR, List.length_cons]
    rw [this, show b + 1 + l.length = b + (l.length + 1) by omega]
theorem itemsR_drop : ∀ (n b : Nat) (l : List (List Nat)), (itemsR b l).drop n = itemsR (b + n) (l.drop n)
  | 0, _, _ => rfl
  | n + 1, _, [] => by simp [itemsR]
  | n + 1, b, x :: l => by
    have := itemsR_drop n (b + 1) l
    simp only [itemsR, List.drop_succ_cons]
    rw [this, show b + 1 + n = b + (n + 1) by omega]
theorem itemsR_get : ∀ (b : Nat) (l : List (List Nat)) (i : Nat), i < l.length → (itemsR b l).getD i (0, []) = (b + i, l.getD i [])
  | _, [], _, h => by simp at h
  | b, x :: l, 0, _ => rfl
  | b, x :: l, i + 1, h => by
    have := itemsR_get (b + 1) l i (by simpa using h)
    simp only [itemsR, List.getD_cons_succ]
    rw [this, show b + 1 + i = b + (i + 1) by omega]
theorem rackN_items (u : Nat) : ∀ (b : Nat) (l : List (List Nat)), rackN u (itemsR b l) = if u < b then 0 else min (u - b + 1) l.length
  | b, [] => by simp [itemsR, rackN]
  | b, x :: l => by
    have := rackN_items u (b + 1) l
    simp only [itemsR, rackN, List.length_cons]
    by_cases h : u < b
    · rw [if_neg (by omega), if_pos h]
    · rw [if_pos (by omega), if_neg h, this]
      split <;> omega
structure SRel (r : RSnd) (d : SndD) : Prop where
  it : r.items = itemsR d.base d.wait
  ps : r.puts + 1 = d.base + d.wait.length
  tl : r.told.length = d.wait.length
  tb : ∀ i, r.told.getD i false = d.told.testBit i
  lt : ∀ i, min d.wait.length 16 ≤ i → d.told.testBit i = false
structure KRel (k : RLnk) (d : LnkD) : Prop where
  u : k.upto = d.upto
  h : k.held = d.held
  o : k.owes = d.owes
theorem SRel.new : SRel rsNew sndNew := ⟨rfl, rfl, rfl, fun i => by simp [rsNew, sndNew], fun i _ => by simp [sndNew]⟩
theorem KRel.new : KRel rkNew lnkNew := ⟨rfl, rfl, rfl⟩
theorem SRel.len {r : RSnd} {d : SndD} (h : SRel r d) : r.items.length = d.wait.length := by rw [h.it, itemsR_len]
theorem SRel.put {r : RSnd} {d : SndD} (h : SRel r d) (bs : List Nat) : rputC r bs = putC d bs ∧ SRel (rputD r bs) (putD d bs) := by
  refine ⟨by unfold rputC putC; rw [h.len], ?_⟩
  unfold rputD putD
  rw [h.len]
  split
  · exact h
  split
  · exact h
  · have hps := h.ps
    refine ⟨?_, ?_, ?_, fun i => ?_, fun i hi => ?_⟩
    · show r.items ++ [(r.puts + 1, bs)] = itemsR d.base (d.wait ++ [bs])
      rw [itemsR_snoc, h.it, hps]
    · show r.puts + 1 + 1 = d.base + (d.wait ++ [bs]).length
      simp; omega
    · show (r.told ++ [false]).length = (d.wait ++ [bs]).length
      simp [h.tl]
    · show (r.told ++ [false]).getD i false = d.told.testBit i
      rw [← h.tb i]
      by_cases hi : i < r.told.length
      · simp [List.getD, List.getElem?_append_left hi]
      · have h1 : r.told.getD i false = false := by simp [List.getD, List.getElem?_eq_none (by omega : r.told.length ≤ i)]
        rw [h1]
        by_cases hj : i = r.told.length
        · subst hj; simp [List.getD]
        · simp [List.getD, List.getElem?_eq_none (show (r.told ++ [false]).length ≤ i by simp; omega)]
    · have hi : min (d.wait ++ [bs]).length 16 ≤ i := hi
      rw [List.length_append] at hi
      exact h.lt i (by simp at hi; omega)
theorem SRel.ack {r : RSnd} {d : SndD} (h : SRel r d) (q : Nat) : SRel (rackD q r) (ackD d q) := by
  have hps := h.ps
  unfold rackD ackD
  by_cases h1 : r.puts < q
  · rw [if_pos h1, if_pos (by omega)]; exact h
  rw [if_neg h1]
  by_cases h2 : q < d.base
  · rw [if_pos (.inl h2)]
    have h0 : rackN q r.items = 0 := by rw [h.it, rackN_items, if_pos h2]
    rw [h0]
    exact ⟨h.it, h.ps, h.tl, h.tb, h.lt⟩
  rw [if_neg (by omega)]
  have hn : rackN q r.items = q - d.base + 1 := by rw [h.it, rackN_items, if_neg h2]; omega
  rw [hn]
  have hlt := h.lt
  obtain ⟨n, hnn⟩ : ∃ n, q - d.base + 1 = n := ⟨_, rfl⟩
  rw [hnn]
  have hq : q + 1 = d.base + n := by omega
  have hb : ∀ i, (d.told / 2 ^ min n 32).testBit i = d.told.testBit (n + i) := fun i => by
    rw [Nat.testBit_div_two_pow]
    by_cases h32 : n ≤ 32
    · rw [Nat.min_eq_left h32, Nat.add_comm]
    · rw [Nat.min_eq_right (by omega), hlt (i + 32) (by omega), hlt (n + i) (by omega)]
  refine ⟨?_, ?_, ?_, fun i => ?_, fun i hi => ?_⟩
  · show r.items.drop n = itemsR (q + 1) (d.wait.drop n)
    rw [h.it, itemsR_drop, hq]
  · show r.puts + 1 = q + 1 + (d.wait.drop n).length
    rw [List.length_drop]; omega
  · show (r.told.drop n).length = (d.wait.drop n).length
    rw [List.length_drop, List.length_drop, h.tl]
  · show (r.told.drop n).getD i false = (d.told / 2 ^ min n 32).testBit i
    rw [hb, ← h.tb (n + i)]
    simp [List.getD]
  · show (d.told / 2 ^ min n 32).testBit i = false
    have hi : min (d.wait.drop n).length 16 ≤ i := hi
    rw [List.length_drop] at hi
    rw [hb]
    exact hlt _ (by omega)
theorem SRel.tick {r : RSnd} {d : SndD} (h : SRel r d) : SRel { r with told := List.replicate r.told.length false } { d with told := 0 } :=
  ⟨h.it, h.ps, by simp [h.tl], fun i => by
    show (List.replicate r.told.length false).getD i false = (0 : Nat).testBit i
    rw [Nat.zero_testBit]
    by_cases hi : i < r.told.length
    · simp [List.getD, hi]
    · simp [List.getD, hi], fun i _ => Nat.zero_testBit i⟩
theorem dueStep_bit (d : SndD) (i j : Nat) : (dueStep d i).told.testBit j = (d.told.testBit j || decide (i = j)) := by
  have : (dueStep d i).told = d.told ||| 2 ^ i := by unfold dueStep; split <;> rfl
  rw [this, Nat.testBit_or, Nat.testBit_two_pow]
theorem dueL_rel : ∀ (f i : Nat) (t : List Bool) (d : SndD), (∀ j, i ≤ j → t.getD j false = d.told.testBit j) → dueL f i d = rdueL f i t
  | 0, _, _, _, _ => rfl
  | f + 1, i, t, d, h => by
    have h0 := h i (Nat.le_refl _)
    unfold dueL rdueL
    rw [h0]
    by_cases hb : d.told.testBit i = true
    · rw [if_pos hb, if_pos hb]
      exact dueL_rel f (i + 1) t d fun j hj => h j (by omega)
    · rw [if_neg hb, if_neg hb]
      rw [dueL_rel f (i + 1) t (dueStep d i) fun j hj => by rw [dueStep_bit, h j (by omega)]; simp; omega]
theorem dueE_bit : ∀ (f i : Nat) (d : SndD) (j : Nat), (dueE f i d).told.testBit j = (d.told.testBit j || decide (i ≤ j ∧ j < i + f))
  | 0, i, d, j => by simp [dueE]; omega
  | f + 1, i, d, j => by
    unfold dueE
    by_cases hb : d.told.testBit i = true
    · rw [if_pos hb, dueE_bit f (i + 1) d j]
      by_cases hij : i = j
      · subst hij; rw [hb]; simp
      · congr 1
        exact decide_eq_decide.2 (by omega)
    · rw [if_neg hb, dueE_bit f (i + 1) (dueStep d i) j, dueStep_bit]
      by_cases hij : i = j
      · subst hij; simp
      · rw [decide_eq_false hij, Bool.or_false]
        congr 1
        exact decide_eq_decide.2 (by omega)
theorem rdueL_mem : ∀ (f i : Nat) (t : List Bool), ∀ x ∈ rdueL f i t, x < i + f
  | 0, _, _, x, h => by simp [rdueL] at h
  | f + 1, i, t, x, h => by
    unfold rdueL at h
    split at h
    · have := rdueL_mem f (i + 1) t x h; omega
    · rcases List.mem_cons.1 h with h | h
      · omega
      · have := rdueL_mem f (i + 1) t x h; omega
theorem SRel.dueI {r : RSnd} {d : SndD} (h : SRel r d) : rdueI r = Go.Proofs.Ytidohmpnefcpcaa.dueI d := by
  unfold rdueI Proofs.Ytidohmpnefcpcaa.dueI
  rw [h.len, dueL_rel _ 0 r.told d fun j _ => h.tb j]
  refine List.map_congr_left fun x hx => ?_
  have := rdueL_mem _ _ _ x hx
  unfold ritemD itemD
  rw [h.it, itemsR_get _ _ _ (by omega)]
theorem SRel.due {r : RSnd} {d : SndD} (h : SRel r d) {r' : RSnd} (h1 : r'.items = r.items) (h2 : r'.puts = r.puts) (h3 : r'.told = rdueT r) : SRel r' (dueD d) := by
  obtain ⟨e1, e2⟩ := dueE_base (min d.wait.length 16) 0 d
  have e1 : (dueD d).base = d.base := e1
  have e2 : (dueD d).wait = d.wait := e2
  have hb : ∀ j, (dueD d).told.testBit j = (d.told.testBit j || decide (j < min d.wait.length 16)) := fun j => by
    have := dueE_bit (min d.wait.length 16) 0 d j
    rw [show dueE (min d.wait.length 16) 0 d = dueD d from rfl] at this
    rw [this]
    congr 1
    exact decide_eq_decide.2 (by omega)
  refine ⟨by rw [h1, h.it, e1, e2], by rw [h2, h.ps, e1, e2], ?_, fun i => ?_, fun i hi => ?_⟩
  · rw [h3, e2]
    unfold rdueT
    rw [List.length_append, List.length_replicate, List.length_drop, h.len, h.tl]; omega
  · rw [h3, hb]
    unfold rdueT
    rw [h.len]
    by_cases hi : i < min d.wait.length 16
    · rw [decide_eq_true hi, Bool.or_true]
      rw [List.getD, List.getElem?_append_left (by simpa using hi)]
      simp [hi]
    · rw [decide_eq_false hi, Bool.or_false, ← h.tb i]
      rw [List.getD, List.getElem?_append_right (by simp; omega), List.getElem?_drop, List.length_replicate, show min d.wait.length 16 + (i - min d.wait.length 16) = i by omega]
      rfl
  · rw [e2] at hi
    rw [hb, h.lt i hi, decide_eq_false (by omega)]; rfl
theorem KRel.take {k : RLnk} {d : LnkD} (h : KRel k d) (q : Nat) (bs : List Nat) : takeL (rtakeD k) q bs = takeL d q bs ∧ KRel ⟨(takeD (rtakeD k) q bs).upto, (takeD (rtakeD k) q bs).held, true⟩ (takeD d q bs) := by
  have h1 : takeNo (rtakeD k) q ↔ takeNo d q := by
    show ((look q k.held).isSome = true ∨ q ≤ k.upto ∨ 16 < q - k.upto) ↔ _
    rw [h.u, h.h]; exact Iff.rfl
  have h2 : takeT (rtakeD k) q bs = takeT d q bs := by
    show takeGo (k.held.length + 1 + 1) k.upto (ins q bs k.held) = _
    rw [h.u, h.h]; rfl
  unfold takeL takeD
  by_cases hn : takeNo d q
  · have hn' := h1.2 hn
    rw [if_pos hn, if_pos hn', if_pos hn, if_pos hn']
    exact ⟨rfl, h.u, h.h, rfl⟩
  · have hn' : ¬ takeNo (rtakeD k) q := fun e => hn (h1.1 e)
    rw [if_neg hn, if_neg hn', if_neg hn, if_neg hn', h2]
    exact ⟨rfl, rfl, rfl, rfl⟩
theorem takeGo_fit : ∀ (f u : Nat) (H : List (Nat × List Nat)), (takeGo f u H).2.1 + (takeGo f u H).2.2.length ≤ u + H.length ∧ (takeGo f u H).2.2.length ≤ H.length
  | 0, u, H => ⟨Nat.le_refl _, Nat.le_refl _⟩
  | f + 1, u, H => by
    unfold takeGo
    cases hl : look (u + 1) H with
    | none => exact ⟨Nat.le_refl _, Nat.le_refl _⟩
    | some b =>
      have h1 := del_len hl
      have h2 := takeGo_fit f (u + 1) (del (u + 1) H)
      refine ⟨?_, ?_⟩
      · show (takeGo f (u + 1) (del (u + 1) H)).2.1 + (takeGo f (u + 1) (del (u + 1) H)).2.2.length ≤ _
        omega
      · show (takeGo f (u + 1) (del (u + 1) H)).2.2.length ≤ _
        omega
theorem LFit.take {B : Nat} {d : LnkD} (h : LFit B d) (q : Nat) (bs : List Nat) : LFit (B + 1) (takeD d q bs) := by
  have hu := h.uh
  have hh := h.hh
  have hw := h.bw
  unfold takeD
  split
  · exact ⟨Nat.le_succ_of_le hw, Nat.le_succ_of_le hu, Nat.le_succ_of_le hh, h.tl⟩
  · have h1 := takeGo_fit (d.held.length + 1 + 1) d.upto (ins q bs d.held)
    have h2 := ins_lenK (x := q) (v := bs) d.held
    refine ⟨Nat.le_succ_of_le hw, ?_, ?_, h.tl⟩
    · show (takeT d q bs).2.1 + (takeT d q bs).2.2.length ≤ B + 1
      unfold takeT; omega
    · show (takeT d q bs).2.2.length ≤ B + 1
      unfold takeT; omega
theorem LFit.put {B : Nat} {d : LnkD} (h : LFit B d) (bs : List Nat) : LFit (B + 1) { d with snd := putD d.snd bs } := by
  have hw := h.bw
  refine ⟨?_, Nat.le_succ_of_le h.uh, Nat.le_succ_of_le h.hh, ?_⟩
  · show (putD d.snd bs).base + (putD d.snd bs).wait.length ≤ B + 1
    unfold putD
    split
    · omega
    split
    · omega
    · simp; omega
  · show ∀ b ∈ (putD d.snd bs).wait, b.length ≤ 4096
    unfold putD
    split
    · exact h.tl
    split
    · exact h.tl
    · intro b hb
      simp only [List.mem_append, List.mem_singleton] at hb
      rcases hb with hb | rfl
      · exact h.tl b hb
      · omega
theorem LFit.ack {B : Nat} {d : LnkD} (h : LFit B d) (q : Nat) : LFit (B + 1) { d with snd := ackD d.snd q } := by
  have hw := h.bw
  refine ⟨?_, Nat.le_succ_of_le h.uh, Nat.le_succ_of_le h.hh, ?_⟩
  · show (ackD d.snd q).base + (ackD d.snd q).wait.length ≤ B + 1
    unfold ackD
    split
    · omega
    · simp; omega
  · show ∀ b ∈ (ackD d.snd q).wait, b.length ≤ 4096
    unfold ackD
    split
    · exact h.tl
    · exact fun b hb => h.tl b (List.mem_of_mem_drop hb)
theorem LFit.more {B : Nat} {d : LnkD} (h : LFit B d) : LFit (B + 1) d := ⟨Nat.le_succ_of_le h.bw, Nat.le_succ_of_le h.uh, Nat.le_succ_of_le h.hh, h.tl⟩
theorem LFit.new {B : Nat} (hB : 1 ≤ B) : LFit B lnkNew := ⟨hB, Nat.zero_le _, Nat.zero_le _, fun b hb => by cases hb⟩
end Go.Proofs.Ytidohmpnefcpcaa

namespace Go.Proofs.Ytidohmpnefcpcaa
/-! ### both hubs in plain words: the peers -/
section
variable {α β : Type} [DecidableEq α]
theorem look_mem {x : α} {v : β} : ∀ {L : List (α × β)}, look x L = some v → (x, v) ∈ L
  | [], h => by cases h
  | p :: l, h => by
    simp only [look] at h
    split at h
    · next e => cases h; rw [e]; exact List.mem_cons_self ..
    · exact List.mem_cons_of_mem _ (look_mem h)
theorem mem_look {x : α} {v : β} : ∀ {L : List (α × β)}, (keys L).Nodup → (x, v) ∈ L → look x L = some v
  | [], _, h => by cases h
  | p :: l, nd, h => by
    simp only [keys, List.map_cons, List.nodup_cons] at nd
    simp only [look]
    rcases List.mem_cons.1 h with h | h
    · rw [if_pos (by rw [← h]), ← h]
    · rw [if_neg fun e => nd.1 (by rw [← e]; exact List.mem_map.2 ⟨_, h, rfl⟩)]
      exact mem_look nd.2 h
theorem look_key {x : α} {L : List (α × β)} (h : x ∈ keys L) : ∃ v, look x L = some v := by
  have := look_isSome.2 h
  cases e : look x L with
  | none => rw [e] at this; cases this
  | some v => exact ⟨v, rfl⟩
theorem key_look {x : α} {v : β} {L : List (α × β)} (h : look x L = some v) : x ∈ keys L := look_isSome.1 (by rw [h]; rfl)
theorem look_no {x : α} {L : List (α × β)} : look x L = none ↔ x ∉ keys L := by
  constructor
  · intro h e
    obtain ⟨v, hv⟩ := look_key e
    rw [h] at hv; cases hv
  · intro h
    cases e : look x L with
    | none => rfl
    | some v => exact absurd (key_look e) h
theorem keys_insK {x : α} {v : β} : ∀ {L : List (α × β)}, x ∈ keys L → keys (ins x v L) = keys L
  | [], h => by cases h
  | p :: l, h => by
    simp only [keys, List.map_cons, List.mem_cons] at h
    simp only [ins]
    by_cases e : x = p.1
    · rw [if_pos e]; simp [keys, e]
    · rw [if_neg e]
      have := keys_insK (v := v) (L := l) (h.elim (fun h => absurd h e) id)
      simp only [keys, List.map_cons] at this ⊢
      rw [this]
theorem keys_delK {x : α} : ∀ {L : List (α × β)}, (keys L).Nodup → keys (del x L) = (keys L).filter fun y => !decide (y = x)
  | [], _ => rfl
  | p :: l, nd => by
    simp only [keys, List.map_cons, List.nodup_cons] at nd
    have := keys_delK (x := x) (L := l) nd.2
    simp only [del]
    by_cases e : x = p.1
    · rw [if_pos e]
      simp only [keys, List.map_cons]
      rw [List.filter_cons, if_neg (by simp [e])]
      refine (List.filter_eq_self.2 fun y hy => ?_).symm
      simp only [Bool.not_eq_true', decide_eq_false_iff_not]
      exact fun h => nd.1 (by rw [← e, ← h]; exact hy)
    · rw [if_neg e]
      simp only [keys, List.map_cons] at this ⊢
      rw [this, List.filter_cons, if_pos (by simpa using fun h => e h.symm)]
theorem mem_insK {x : α} {v : β} {y : α × β} : ∀ {L : List (α × β)}, y ∈ ins x v L → y ∈ L ∨ y = (x, v)
  | [], h => .inr (by simpa [ins] using h)
  | p :: l, h => by
    simp only [ins] at h
    split at h
    · rcases List.mem_cons.1 h with h | h
      · exact .inr h
      · exact .inl (List.mem_cons_of_mem _ h)
    · rcases List.mem_cons.1 h with h | h
      · exact .inl (by rw [h]; exact List.mem_cons_self ..)
      · exact (mem_insK h).imp (List.mem_cons_of_mem _) id
theorem mem_delK {x : α} {y : α × β} : ∀ {L : List (α × β)}, y ∈ del x L → y ∈ L
  | [], h => by cases h
  | p :: l, h => by
    simp only [del] at h
    split at h
    · exact List.mem_cons_of_mem _ h
    · rcases List.mem_cons.1 h with h | h
      · rw [h]; exact List.mem_cons_self ..
      · exact List.mem_cons_of_mem _ (mem_delK h)
theorem look_delK {x y : α} : ∀ {L : List (α × β)}, (keys L).Nodup → look y (del x L) = if y = x then none else look y L
  | [], _ => by simp [del, look]
  | p :: l, nd => by
    simp only [keys, List.map_cons, List.nodup_cons] at nd
    have ih := look_delK (x := x) (y := y) nd.2
    simp only [del]
    by_cases e : x = p.1
    · rw [if_pos e]
      by_cases h : y = x
      · rw [if_pos h]
        exact look_no.2 (by rw [h, e]; exact nd.1)
      · rw [if_neg h]
        simp only [look]
        rw [if_neg (fun h2 => h (h2.trans e.symm))]
    · rw [if_neg e]
      simp only [look]
      rw [ih]
      by_cases h : y = p.1
      · rw [if_pos h, if_neg (fun h2 => e (h2.symm.trans h)), if_pos h]
      · rw [if_neg h]
        split
        · rfl
        · rfl
theorem look_map {γ : Type} (f : α × β → γ) (x : α) : ∀ (L : List (α × β)), look x (L.map fun p => (p.1, f p)) = (look x L).map fun v => f (x, v)
  | [] => rfl
  | p :: l => by
    simp only [List.map_cons, look]
    split
    · next e => subst e; rfl
    · exact look_map f x l
omit [DecidableEq α] in
theorem keys_map {γ : Type} (f : α × β → γ) (L : List (α × β)) : keys (L.map fun p => (p.1, f p)) = keys L := by
  unfold keys; rw [List.map_map]; rfl
end
theorem sortL_same {xs ys : List Pid} (h : ys.Perm xs) (hs : ys.Pairwise fun x y => (!(ahead y x)) = true) (hok : ∀ p ∈ ys, ok p) : sortL xs = ys := by
  rw [← sortL_perm h hok]
  exact List.mergeSort_of_pairwise hs
theorem aheadQ_num {p q : Pid} (h1 : ok p) (h2 : ok q) : aheadQ p q = ahead p q := by
  obtain ⟨x1, x2, x3, x4⟩ := h1
  obtain ⟨y1, y2, y3, y4⟩ := h2
  unfold ahead aheadQ numOf
  congr 1
  simp only [eq_iff_iff]
  omega
theorem ratD_shift (p : Pid) : ∀ (l : RHubD) (i : Nat), ratD p l (i + 1) = ratD p l i + 1
  | [], _ => rfl
  | y :: l, i => by
    simp only [ratD]
    split
    · exact ratD_shift p l (i + 1)
    · rfl
def rputAt (p : Pid) (e : RSnd × RLnk) (D : RHubD) : RHubD := D.take (ratD p D 0) ++ (p, e) :: D.drop (ratD p D 0)
theorem rputAt_cons {p : Pid} {e : RSnd × RLnk} {y : Pid × (RSnd × RLnk)} {l : RHubD} : rputAt p e (y :: l) = if aheadQ y.1 p = true then y :: rputAt p e l else (p, e) :: y :: l := by
  unfold rputAt
  simp only [ratD]
  split
  · rw [ratD_shift]; rfl
  · rfl
theorem rputAt_keys {p : Pid} {e : RSnd × RLnk} : ∀ (D : RHubD), (keys (rputAt p e D)).Perm (p :: keys D)
  | [] => by simp [rputAt, ratD, keys]
  | y :: l => by
    rw [rputAt_cons]
    split
    · exact ((rputAt_keys l).cons y.1).trans (List.Perm.swap ..)
    · exact List.Perm.refl _
theorem rputAt_sorted {p : Pid} {e : RSnd × RLnk} (hp : ok p) : ∀ {D : RHubD}, (keys D).Pairwise (fun x y => (!(ahead y x)) = true) → (∀ q ∈ keys D, ok q) → (keys (rputAt p e D)).Pairwise fun x y => (!(ahead y x)) = true
  | [], _, _ => by simp [rputAt, ratD, keys]
  | y :: l, h, hok => by
    have h' := List.pairwise_cons.1 (show (y.1 :: keys l).Pairwise (fun x y => (!(ahead y x)) = true) from h)
    have hy : ok y.1 := hok _ (List.mem_cons_self ..)
    rw [rputAt_cons, aheadQ_num hy hp]
    split
    · next ha =>
      refine List.pairwise_cons.2 ⟨fun z hz => ?_, rputAt_sorted hp h'.2 fun q hq => hok q (List.mem_cons_of_mem _ hq)⟩
      rcases List.mem_cons.1 ((rputAt_keys l).mem_iff.1 hz) with rfl | hz
      · simp only [ahead, decide_eq_true_eq] at ha
        simp only [ahead, Bool.not_eq_true', decide_eq_false_iff_not]
        omega
      · exact h'.1 z hz
    · next ha =>
      refine List.pairwise_cons.2 ⟨fun z hz => ?_, h⟩
      simp only [ahead, decide_eq_true_eq] at ha
      simp only [ahead, Bool.not_eq_true', decide_eq_false_iff_not]
      rcases List.mem_cons.1 hz with rfl | hz
      · exact ha
      · have := h'.1 z hz
        simp only [ahead, Bool.not_eq_true', decide_eq_false_iff_not] at this
        show ¬ numOf z < numOf p
        have : ¬ numOf z < numOf y.1 := this
        omega
theorem rputAt_look {p q : Pid} {e : RSnd × RLnk} : ∀ {D : RHubD}, p ∉ keys D → look q (rputAt p e D) = if q = p then some e else look q D
  | [], _ => by simp [rputAt, ratD, look]
  | y :: l, h => by
    simp only [keys, List.map_cons, List.mem_cons, not_or] at h
    have ih := rputAt_look (q := q) (e := e) (D := l) h.2
    rw [rputAt_cons]
    split
    · simp only [look]
      rw [ih]
      by_cases hq : q = y.1
      · rw [if_pos hq, if_neg (fun e => h.1 (e.symm.trans hq)), if_pos hq]
      · rw [if_neg hq, if_neg hq]
    · simp only [look]
/-- the program's hub and the reference's -/
structure HRel (H : HubD) (D : RHubD) : Prop where
  ks : keys D = sortL (keys H)
  nd : (keys H).Nodup
  okk : ∀ p ∈ keys H, ok p
  pr : ∀ p d, look p H = some d → ∃ s k, look p D = some (s, k) ∧ SRel s d.snd ∧ KRel k d
def HFit (B : Nat) (H : HubD) : Prop := ∀ y ∈ H, LFit B y.2
theorem HRel.nil : HRel [] [] := ⟨by simp [keys, sortL], List.nodup_nil, fun p h => by simp [keys] at h, fun p d h => by simp [look] at h⟩
section
variable {H : HubD} {D : RHubD} {p : Pid} {B : Nat}
theorem HRel.perm (R : HRel H D) : (keys D).Perm (keys H) := by rw [R.ks]; exact sortL_perm_self _
theorem HRel.ndD (R : HRel H D) : (keys D).Nodup := R.perm.nodup_iff.2 R.nd
theorem HRel.none (R : HRel H D) : look p H = none ↔ look p D = none := by rw [look_no, look_no, R.perm.mem_iff]
theorem HRel.len (R : HRel H D) : D.length = H.length := by have := R.perm.length_eq; simpa [keys] using this
theorem HRel.link (R : HRel H D) (hok : ok p) : (linkD H p = Option.none ∧ rlinkD D p = Option.none) ∨ ∃ H' D', linkD H p = some H' ∧ rlinkD D p = some D' ∧ HRel H' D' ∧ (p ∈ keys H') ∧ ∀ B, 1 ≤ B → HFit B H → HFit B H' := by
  unfold linkD rlinkD
  cases e : look p H with
  | some d =>
    obtain ⟨s, k, e2, -, -⟩ := R.pr p d e
    rw [e2]
    exact .inr ⟨H, D, rfl, rfl, R, key_look e, fun B _ h => h⟩
  | none =>
    rw [R.none.1 e, R.len]
    simp only
    by_cases hl : H.length < 48
    · rw [if_pos hl, if_pos hl]
      have hpH := look_no.1 e
      have hpD := look_no.1 (R.none.1 e)
      refine .inr ⟨H ++ [(p, lnkNew)], rputAt p (rsNew, rkNew) D, rfl, rfl, ⟨?_, ?_, fun q hq => ?_, fun q d hq => ?_⟩, by simp [keys], fun B hB h y hy => ?_⟩
      · have hk : keys (H ++ [(p, lnkNew)]) = keys H ++ [p] := by simp [keys]
        rw [hk]
        have hokD : ∀ q ∈ keys D, ok q := fun q hq => R.okk q (R.perm.mem_iff.1 hq)
        refine (sortL_same ((rputAt_keys D).trans ((R.perm.cons p).trans (List.perm_append_comm (l₁ := [p])))) (rputAt_sorted hok (by rw [R.ks]; exact sortL_pairwise _) hokD) fun q hq => ?_).symm
        rcases List.mem_cons.1 ((rputAt_keys D).mem_iff.1 hq) with rfl | hq
        · exact hok
        · exact hokD q hq
      · have hk : keys (H ++ [(p, lnkNew)]) = keys H ++ [p] := by simp [keys]
        rw [hk, List.nodup_append]
        exact ⟨R.nd, by simp, fun a ha b hb e => hpH (by simp at hb; rw [← hb, ← e]; exact ha)⟩
      · simp only [keys, List.map_append, List.map_cons, List.map_nil, List.mem_append, List.mem_singleton] at hq
        rcases hq with hq | rfl
        · exact R.okk q hq
        · exact hok
      · rw [rputAt_look hpD]
        have h1 : H ++ [(p, lnkNew)] = ins p lnkNew H := (ins_len hpH).symm
        rw [h1, look_ins] at hq
        by_cases hqp : q = p
        · rw [if_pos hqp] at hq
          cases hq
          rw [if_pos hqp]
          exact ⟨_, _, rfl, SRel.new, KRel.new⟩
        · rw [if_neg hqp] at hq
          rw [if_neg hqp]
          exact R.pr q d hq
      · rcases List.mem_append.1 hy with hy | hy
        · exact h y hy
        · rw [List.mem_singleton.1 hy]; exact LFit.new hB
    · rw [if_neg hl, if_neg hl]
      exact .inl ⟨rfl, rfl⟩
theorem HRel.ins {d : LnkD} {s : RSnd} {k : RLnk} (R : HRel H D) (hp : p ∈ keys H) (hs : SRel s d.snd) (hk : KRel k d) : HRel (ins p d H) (Go.Proofs.Ytidohmpnefcpcaa.ins p (s, k) D) := by
  have hpD := R.perm.mem_iff.2 hp
  refine ⟨by rw [keys_insK hp, keys_insK hpD, R.ks], by rw [keys_insK hp]; exact R.nd, by rw [keys_insK hp]; exact R.okk, fun q d' hq => ?_⟩
  rw [look_ins] at hq ⊢
  by_cases hqp : q = p
  · rw [if_pos hqp] at hq
    cases hq
    rw [if_pos hqp]
    exact ⟨_, _, rfl, hs, hk⟩
  · rw [if_neg hqp] at hq
    rw [if_neg hqp]
    exact R.pr q d' hq
theorem HFit.ins {d : LnkD} (h : HFit B H) (hd : LFit (B + 1) d) : HFit (B + 1) (ins p d H) := fun y hy => by
  rcases mem_insK hy with hy | rfl
  · exact (h y hy).more
  · exact hd
theorem HFit.more (h : HFit B H) : HFit (B + 1) H := fun y hy => (h y hy).more
theorem HFit.look {d : LnkD} (h : HFit B H) (e : look p H = some d) : LFit B d := h _ (look_mem e)
theorem send_rel {sf : Pid} {bs : List Nat} (R : HRel H D) (hok : ok p) (hF : HFit B H) (hB : 1 ≤ B) : (sendR sf H p bs).1 = (rsendD sf D p bs).1 ∧ HRel (sendR sf H p bs).2 (rsendD sf D p bs).2 ∧ HFit (B + 1) (sendR sf H p bs).2 := by
  unfold sendR rsendD otherB
  rw [← mayR_B hok]
  by_cases h1 : p = sf ∨ mayR p = false
  · rw [if_pos h1, if_neg]
    · exact ⟨rfl, R, hF.more⟩
    · rcases h1 with h1 | h1 <;> simp [h1]
  · rw [if_neg h1, if_pos]
    · rcases R.link hok with ⟨e1, e2⟩ | ⟨H', D', e1, e2, R', hp, hf⟩
      · rw [e1, e2]; exact ⟨rfl, R, hF.more⟩
      · rw [e1, e2]
        obtain ⟨d, hd⟩ := look_key hp
        obtain ⟨s, k, e3, hs, hk⟩ := R'.pr p d hd
        simp only [hd, e3]
        have h2 := hs.put bs
        have hF' := hf B hB hF
        exact ⟨h2.1.symm, R'.ins hp h2.2 ⟨hk.u, hk.h, hk.o⟩, hF'.ins ((hF'.look hd).put bs)⟩
    · simp only [not_or, Bool.not_eq_false] at h1
      simp [h1]
theorem arrive_rel {sf : Pid} {q : PackD} (R : HRel H D) (hok : ok q.fr) (hF : HFit B H) (hB : 1 ≤ B) : (arriveR sf H q).1 = (rarriveD sf D q).1 ∧ HRel (arriveR sf H q).2 (rarriveD sf D q).2 ∧ HFit (B + 1) (arriveR sf H q).2 := by
  unfold arriveR rarriveD otherB
  rw [← mayR_B hok]
  by_cases h1 : q.dst ≠ sf ∨ q.fr = sf ∨ mayR q.fr = false
  · rw [if_pos h1, if_neg]
    · exact ⟨rfl, R, hF.more⟩
    · rcases h1 with h1 | h1 | h1
      · exact fun h => h1 h.1
      · simp [h1]
      · simp [h1]
  · rw [if_neg h1, if_pos]
    · by_cases h2 : q.kind = 2
      · rw [if_pos h2, if_pos h2]
        rcases R.link hok with ⟨e1, e2⟩ | ⟨H', D', e1, e2, R', hp, hf⟩
        · rw [e1, e2]; exact ⟨rfl, R, hF.more⟩
        · rw [e1, e2]
          obtain ⟨d, hd⟩ := look_key hp
          obtain ⟨s, k, e3, hs, hk⟩ := R'.pr q.fr d hd
          simp only [hd, e3]
          have h3 := hk.take q.seq q.body
          have hF' := hf B hB hF
          refine ⟨h3.1.symm, R'.ins hp ?_ h3.2, hF'.ins ((hF'.look hd).take q.seq q.body)⟩
          have : (takeD d q.seq q.body).snd = d.snd := by unfold takeD; split <;> rfl
          rw [this]; exact hs
      · rw [if_neg h2, if_neg h2]
        by_cases h3 : q.kind = 3
        · rw [if_pos h3, if_pos h3]
          cases hd : look q.fr H with
          | none => rw [R.none.1 hd]; exact ⟨rfl, R, hF.more⟩
          | some d =>
            obtain ⟨s, k, e3, hs, hk⟩ := R.pr q.fr d hd
            simp only [e3]
            exact ⟨trivial, R.ins (key_look hd) (hs.ack q.seq) ⟨hk.u, hk.h, hk.o⟩, hF.ins ((hF.look hd).ack q.seq)⟩
        · rw [if_neg h3, if_neg h3]
          exact ⟨rfl, R, hF.more⟩
    · simp only [not_or, Bool.not_eq_false, ne_eq, Decidable.not_not] at h1
      simp [h1]
def tickF (x : Pid × LnkD) : LnkD := { x.2 with snd := { x.2.snd with told := 0 } }
def rtickF (y : Pid × (RSnd × RLnk)) : RSnd × RLnk := ({ y.2.1 with told := List.replicate y.2.1.told.length false }, y.2.2)
theorem tick_rel (R : HRel H D) (hF : HFit B H) : HRel (tickH H) (rtickD D) ∧ HFit (B + 1) (tickH H) := by
  have k1 : keys (tickH H) = keys H := keys_map tickF H
  have k2 : keys (rtickD D) = keys D := keys_map rtickF D
  refine ⟨⟨by rw [k1, k2, R.ks], by rw [k1]; exact R.nd, by rw [k1]; exact R.okk, fun q d hq => ?_⟩, fun y hy => ?_⟩
  · have h1 : look q (tickH H) = _ := look_map tickF q H
    have h2 : look q (rtickD D) = _ := look_map rtickF q D
    rw [h1] at hq
    rw [h2]
    cases e : look q H with
    | none => rw [e] at hq; cases hq
    | some d0 =>
      rw [e] at hq
      cases hq
      obtain ⟨s, k, e3, hs, hk⟩ := R.pr q d0 e
      rw [e3]
      exact ⟨_, _, rfl, hs.tick, ⟨hk.u, hk.h, hk.o⟩⟩
  · obtain ⟨z, hz, rfl⟩ := List.mem_map.1 hy
    have := (hF z hz).more
    exact ⟨this.bw, this.uh, this.hh, this.tl⟩
theorem drop_rel (R : HRel H D) (hF : HFit B H) : (look p H).isSome = (look p D).isSome ∧ HRel (del p H) (del p D) ∧ HFit (B + 1) (del p H) := by
  refine ⟨?_, ⟨?_, ?_, fun q hq => ?_, fun q d hq => ?_⟩, fun y hy => (hF y (mem_delK hy)).more⟩
  · cases e : look p H with
    | none => rw [R.none.1 e]; rfl
    | some d =>
      obtain ⟨s, k, e3, -, -⟩ := R.pr p d e
      rw [e3]; rfl
  · rw [keys_delK R.nd, keys_delK R.ndD]
    refine (sortL_same (R.perm.filter _) ?_ fun q hq => R.okk q (R.perm.mem_iff.1 (List.mem_filter.1 hq).1)).symm
    exact List.Pairwise.sublist (List.filter_sublist ..) (by rw [R.ks]; exact sortL_pairwise _)
  · rw [keys_delK R.nd]; exact List.Pairwise.sublist (List.filter_sublist ..) R.nd
  · rw [keys_delK R.nd] at hq; exact R.okk q (List.mem_filter.1 hq).1
  · rw [look_delK R.nd] at hq
    rw [look_delK R.ndD]
    by_cases hqp : q = p
    · rw [if_pos hqp] at hq; cases hq
    · rw [if_neg hqp] at hq
      rw [if_neg hqp]
      exact R.pr q d hq
/-- Out over some peers -/
theorem outGo_keys (sf : Pid) : ∀ (ps : List Pid) (H : HubD), keys (outGo sf ps H).2 = keys H
  | [], _ => rfl
  | p :: l, H => by
    unfold outGo
    cases e : look p H with
    | none => exact outGo_keys sf l H
    | some d =>
      show keys (outGo sf l (Go.Proofs.Ytidohmpnefcpcaa.ins p (outD d) H)).2 = keys H
      rw [outGo_keys, keys_insK (key_look e)]
theorem outGo_look (sf q : Pid) : ∀ (ps : List Pid) (H : HubD), ps.Nodup → look q (outGo sf ps H).2 = if q ∈ ps then (look q H).map outD else look q H
  | [], _, _ => by simp [outGo]
  | p :: l, H, nd => by
    have nd' := List.nodup_cons.1 nd
    unfold outGo
    cases e : look p H with
    | none =>
      show look q (outGo sf l H).2 = _
      rw [outGo_look sf q l H nd'.2]
      by_cases hq : q = p
      · subst hq
        rw [if_neg nd'.1, if_pos (List.mem_cons_self ..), e]; rfl
      · simp [hq]
    | some d =>
      show look q (outGo sf l (Go.Proofs.Ytidohmpnefcpcaa.ins p (outD d) H)).2 = _
      rw [outGo_look sf q l _ nd'.2, look_ins]
      by_cases hq : q = p
      · subst hq
        rw [if_neg nd'.1, if_pos rfl, if_pos (List.mem_cons_self ..), e]; rfl
      · simp [hq]
def packsL (sf : Pid) (H : HubD) (p : Pid) : List PackD := match look p H with
  | none => []
  | some d => packs sf p d
theorem outGo_out (sf : Pid) : ∀ (ps : List Pid) (H : HubD), ps.Nodup → (outGo sf ps H).1 = ps.flatMap (packsL sf H)
  | [], _, _ => rfl
  | p :: l, H, nd => by
    have nd' := List.nodup_cons.1 nd
    have hsame : ∀ d, l.flatMap (packsL sf (Go.Proofs.Ytidohmpnefcpcaa.ins p d H)) = l.flatMap (packsL sf H) := fun d => by
      rw [List.flatMap_def, List.flatMap_def]
      congr 1
      refine List.map_congr_left fun q hq => ?_
      unfold packsL
      rw [look_ins, if_neg fun e => nd'.1 (by rw [← e]; exact hq)]
    rw [List.flatMap_cons]
    unfold outGo
    cases e : look p H with
    | none =>
      show (outGo sf l H).1 = _
      rw [outGo_out sf l H nd'.2]
      simp only [packsL, e, List.nil_append]
    | some d =>
      show packs sf p d ++ (outGo sf l (Go.Proofs.Ytidohmpnefcpcaa.ins p (outD d) H)).1 = _
      rw [outGo_out sf l _ nd'.2, hsame]
      simp only [packsL, e]
theorem routY_at {L L' : List RPeer} (h : RoutL L L') {y : RPeer} (hy : y ∈ L) : ∃ z ∈ L', RoutY y z := by
  obtain ⟨i, hi, e⟩ := List.getElem_of_mem hy
  obtain ⟨z, h1, h2⟩ := h.2 i y (by rw [List.getElem?_eq_getElem hi, e])
  exact ⟨z, List.mem_of_getElem? h1, h2⟩
theorem routL_keys {L L' : List RPeer} (h : RoutL L L') : keys (rD L') = keys (rD L) := by
  unfold keys rD
  rw [List.map_map, List.map_map]
  refine List.ext_getElem? fun i => ?_
  rw [List.getElem?_map, List.getElem?_map]
  cases e : L[i]? with
  | none =>
    rw [List.getElem?_eq_none (by rw [h.1]; exact List.getElem?_eq_none_iff.1 e)]
  | some y =>
    obtain ⟨z, h1, h2⟩ := h.2 i y e
    rw [h1]
    exact congrArg some h2.1
theorem out_rel {sf : Pid} {L L' : List RPeer} (R : HRel H (rD L)) (hF : HFit B H) (h : RoutL L L') : (outR sf H).1 = L.flatMap (routP sf) ∧ HRel (outR sf H).2 (rD L') ∧ HFit (B + 1) (outR sf H).2 := by
  have hps : peersR H = keys (rD L) := R.ks.symm
  have hnd : (peersR H).Nodup := by rw [hps]; exact R.ndD
  unfold outR
  have hk := outGo_keys sf (peersR H) H
  have hlk : ∀ q d', look q (outGo sf (peersR H) H).2 = some d' → ∃ d, look q H = some d ∧ d' = outD d := fun q d' hq => by
    rw [outGo_look sf q _ _ hnd] at hq
    split at hq
    · cases e : look q H with
      | none => rw [e] at hq; cases hq
      | some d => rw [e] at hq; cases hq; exact ⟨d, rfl, rfl⟩
    · next hm =>
      exact absurd (key_look hq) fun e => hm (by rw [hps]; exact R.perm.mem_iff.2 e)
  refine ⟨?_, ⟨?_, by rw [hk]; exact R.nd, by rw [hk]; exact R.okk, fun q d' hq => ?_⟩, fun y hy => ?_⟩
  · rw [outGo_out sf _ _ hnd, hps]
    have hkl : keys (rD L) = L.map (·.p) := by unfold keys rD; rw [List.map_map]; rfl
    rw [hkl, List.flatMap_map]
    rw [List.flatMap_def, List.flatMap_def]
    congr 1
    refine List.map_congr_left fun y hy => ?_
    have hm : (y.p, (y.s, y.k)) ∈ rD L := List.mem_map.2 ⟨y, hy, rfl⟩
    have h1 := mem_look R.ndD hm
    obtain ⟨d, hd⟩ := look_key (R.perm.mem_iff.1 (key_look h1))
    obtain ⟨s, k, e3, hs, hk⟩ := R.pr _ d hd
    rw [h1] at e3
    cases e3
    simp only [packsL, hd]
    unfold packs routP ackP rackP
    rw [hs.dueI, hk.o, hk.u]
  · rw [hk, routL_keys h, R.ks]
  · obtain ⟨d, hd, rfl⟩ := hlk q d' hq
    obtain ⟨s, k, e3, hs, hk⟩ := R.pr q d hd
    obtain ⟨y, hy, e⟩ := List.mem_map.1 (look_mem e3)
    cases e
    obtain ⟨z, hz, hz0, hz1, hz2, hz3, hz4⟩ := routY_at h hy
    have hm : (z.p, (z.s, z.k)) ∈ rD L' := List.mem_map.2 ⟨z, hz, rfl⟩
    rw [hz0] at hm
    refine ⟨z.s, z.k, mem_look (by rw [routL_keys h]; exact R.ndD) hm, hs.due hz1 hz2 hz3, ?_⟩
    rw [hz4]
    exact ⟨hk.u, hk.h, rfl⟩
  · have hnd2 : (keys (outGo sf (peersR H) H).2).Nodup := by rw [hk]; exact R.nd
    obtain ⟨q, d'⟩ := y
    obtain ⟨d, hd, rfl⟩ := hlk q d' (mem_look hnd2 hy)
    exact (hF.look hd).outF.more
theorem waits_rel (R : HRel H D) : waitsR H p = match look p D with | none => 0 | some d => d.1.items.length := by
  unfold waitsR
  cases e : look p H with
  | none => rw [R.none.1 e]
  | some d =>
    obtain ⟨s, k, e3, hs, -⟩ := R.pr p d e
    rw [e3]
    exact hs.len.symm
theorem rel_fit {L : List RPeer} (R : HRel H (rD L)) (hF : HFit B H) (hB : B ≤ 900000) : ∀ y ∈ L, RFit2 B y := fun y hy => by
  have hm : (y.p, (y.s, y.k)) ∈ rD L := List.mem_map.2 ⟨y, hy, rfl⟩
  have h1 := mem_look R.ndD hm
  obtain ⟨d, hd⟩ := look_key (R.perm.mem_iff.1 (key_look h1))
  obtain ⟨s, k, e3, hs, hk⟩ := R.pr _ d hd
  rw [h1] at e3
  cases e3
  have hf := hF.look hd
  have h2 := hs.ps
  have h3 := hf.bw
  refine ⟨⟨by rw [hs.tl, hs.len], by omega⟩, ?_, ?_⟩
  · rw [hk.u, hk.h]; exact hf.uh
  · rw [hk.h]; exact hf.hh
end
end Go.Proofs.Ytidohmpnefcpcaa

namespace Go.Proofs.Ytidohmpnefcpcaa
open Go.RowKit Go.Deep Go.Joins Go.ChangeShapes
/-! ### lists of bytes, truths, acts of the hub, as the row reads them -/
structure BytesOk (w : World) (a : Option Addr) (bs : List Nat) : Prop where
  row : ByteRow w a bs
  lt : ∀ x ∈ bs, x < 256
theorem BytesOk.ext {w w' : World} {a : Option Addr} {bs : List Nat} (h : BytesOk w a bs) (hb : Below w.heap.size w w') : BytesOk w' a bs := ⟨h.row.ext hb, h.lt⟩
def BlRow (w : World) (a : Option Addr) (ls : List (List Nat)) : Prop :=
  ls = [] ∨ ∃ b off, a = some ⟨b, off, none⟩ ∧ b < w.heap.size ∧ ∀ i (h : i < ls.length), ∃ ai ci, w.cell? ⟨b, off + i, none⟩ = some (.slice ai ls[i].length ci) ∧ BytesOk w ai ls[i]
theorem BlRow.ext {w w' : World} {a : Option Addr} {ls : List (List Nat)} (h : BlRow w a ls) (hb : Below w.heap.size w w') : BlRow w' a ls := by
  rcases h with rfl | ⟨b, off, rfl, hlt, hc⟩
  · exact .inl rfl
  · refine .inr ⟨b, off, rfl, by have := hb.size; omega, fun i hi => ?_⟩
    obtain ⟨ai, ci, h1, h2⟩ := hc i hi
    exact ⟨ai, ci, by rw [hb.cell (by exact hlt)]; exact h1, h2.ext hb⟩
theorem BlRow.at {w : World} {a : Option Addr} {ls : List (List Nat)} (h : BlRow w a ls) {k : Nat} (hk : k < ls.length) :
    ∃ b off ai ci, a = some ⟨b, off, none⟩ ∧ b < w.heap.size ∧ w.cell? ⟨b, off + k, none⟩ = some (.slice ai ls[k].length ci) ∧ BytesOk w ai ls[k] := by
  rcases h with rfl | ⟨b, off, rfl, hlt, hc⟩
  · simp at hk
  · obtain ⟨ai, ci, h1, h2⟩ := hc k hk
    exact ⟨b, off, ai, ci, rfl, hlt, h1, h2⟩
def BoolRow (w : World) (a : Option Addr) (bs : List Bool) : Prop :=
  bs = [] ∨ ∃ b off, a = some ⟨b, off, none⟩ ∧ b < w.heap.size ∧ ∀ i (h : i < bs.length), w.cell? ⟨b, off + i, none⟩ = some (.bool bs[i])
theorem BoolRow.ext {w w' : World} {a : Option Addr} {bs : List Bool} (h : BoolRow w a bs) (hb : Below w.heap.size w w') : BoolRow w' a bs := by
  rcases h with rfl | ⟨b, off, rfl, hlt, hc⟩
  · exact .inl rfl
  · exact .inr ⟨b, off, rfl, by have := hb.size; omega, fun i hi => by rw [hb.cell (by exact hlt)]; exact hc i hi⟩
theorem BoolRow.at {w : World} {a : Option Addr} {bs : List Bool} (h : BoolRow w a bs) {k : Nat} (hk : k < bs.length) : ∃ b off, a = some ⟨b, off, none⟩ ∧ w.cell? ⟨b, off + k, none⟩ = some (.bool bs[k]) := by
  rcases h with rfl | ⟨b, off, rfl, hlt, hc⟩
  · simp at hk
  · exact ⟨b, off, rfl, hc k hk⟩
/-- an act as data -/
structure ActX where
  k : Int
  p : Pid
  b : List Nat
  q : PackX
def actL (x : ActX) (a : Option Addr) (c : Nat) (a' : Option Addr) (c' : Nat) : List Value := [.int .i64 x.k, .int .u16 x.p.1, .int .u32 x.p.2, .slice a x.b.length c, .int .i64 x.q.k, .int .u16 x.q.f.1, .int .u32 x.q.f.2, .int .u16 x.q.t.1, .int .u32 x.q.t.2, .int .u64 x.q.q, .slice a' x.q.b.length c']
structure ActOk (w : World) (a a' : Option Addr) (x : ActX) : Prop where
  kk : -9223372036854775808 ≤ x.k ∧ x.k ≤ 9223372036854775807
  pp : ok x.p
  bb : BytesOk w a x.b
  qq : PackOk w a' x.q
theorem ActOk.ext {w w' : World} {a a' : Option Addr} {x : ActX} (h : ActOk w a a' x) (hb : Below w.heap.size w w') : ActOk w' a a' x := ⟨h.kk, h.pp, h.bb.ext hb, h.qq.ext hb⟩
def ActRow (w : World) (a : Option Addr) (xs : List ActX) : Prop :=
  xs = [] ∨ ∃ b off, a = some ⟨b, off, none⟩ ∧ b < w.heap.size ∧ ∀ i (h : i < xs.length), ∃ ai ci aj cj, (∀ j u, (actL xs[i] ai ci aj cj)[j]? = some u → w.cell? ⟨b, off + i * 11 + j, none⟩ = some u) ∧ ActOk w ai aj xs[i]
theorem ActRow.ext {w w' : World} {a : Option Addr} {xs : List ActX} (h : ActRow w a xs) (hb : Below w.heap.size w w') : ActRow w' a xs := by
  rcases h with rfl | ⟨b, off, rfl, hlt, hc⟩
  · exact .inl rfl
  · refine .inr ⟨b, off, rfl, by have := hb.size; omega, fun i hi => ?_⟩
    obtain ⟨ai, ci, aj, cj, h1, h2⟩ := hc i hi
    exact ⟨ai, ci, aj, cj, fun j u hu => by rw [hb.cell (by exact hlt)]; exact h1 j u hu, h2.ext hb⟩
theorem ActRow.at {w : World} {a : Option Addr} {xs : List ActX} (h : ActRow w a xs) {k : Nat} (hk : k < xs.length) :
    ∃ b off ai ci aj cj, a = some ⟨b, off, none⟩ ∧ b < w.heap.size ∧ (∀ j u, (actL xs[k] ai ci aj cj)[j]? = some u → w.cell? ⟨b, off + k * 11 + j, none⟩ = some u) ∧ ActOk w ai aj xs[k] := by
  rcases h with rfl | ⟨b, off, rfl, hlt, hc⟩
  · simp at hk
  · obtain ⟨ai, ci, aj, cj, h1, h2⟩ := hc k hk
    exact ⟨b, off, ai, ci, aj, cj, rfl, hlt, h1, h2⟩
theorem cellsAct : Try.prog.cellsOf 54 = 11 := by kernel_rfl
theorem list11 {α : Type} {cs : List α} (h : cs.length = 11) : ∃ c0 c1 c2 c3 c4 c5 c6 c7 c8 c9 c10, cs = [c0, c1, c2, c3, c4, c5, c6, c7, c8, c9, c10] := by
  match cs, h with
  | [c0, c1, c2, c3, c4, c5, c6, c7, c8, c9, c10], _ => exact ⟨c0, c1, c2, c3, c4, c5, c6, c7, c8, c9, c10, rfl⟩
section
variable {H : Type} {enc : TypeId × Value → H} {w : World}
theorem trod_struct4' {P : Program} {base : Nat} {spare : Nat → Bool} {held : Bool} {t : TypeId} {f0 f1 f2 f3 : Field} {fuel : Nat} {cs : List Value} {x : DataW H × List MemPlace} (ht : P.underlying t = some (.struct #[f0, f1, f2, f3])) (h : DataW.trod enc P w base spare held fuel t cs = some x) :
    ∃ y0 y1 y2 y3 n, cs.length = P.cellsOf t ∧ DataW.trod enc P w base spare held n f0.type ((cs.drop f0.offset).take (P.cellsOf f0.type)) = some y0 ∧ DataW.trod enc P w base spare held n f1.type ((cs.drop f1.offset).take (P.cellsOf f1.type)) = some y1 ∧ DataW.trod enc P w base spare held n f2.type ((cs.drop f2.offset).take (P.cellsOf f2.type)) = some y2 ∧ DataW.trod enc P w base spare held n f3.type ((cs.drop f3.offset).take (P.cellsOf f3.type)) = some y3 := by
  obtain ⟨xs, n, _, rfl, hl, hlen, hf⟩ := DataW.trod_struct ht h
  match xs, hlen with
  | [y0, y1, y2, y3], _ => exact ⟨y0, y1, y2, y3, n, hl, by simpa using hf 0 f0 rfl, by simpa using hf 1 f1 rfl, by simpa using hf 2 f2 rfl, by simpa using hf 3 f3 rfl⟩
set_option maxRecDepth 100000 in
theorem open_act13 {n : Nat} {cs : List Value} {x : DataW H × List MemPlace} (h : DataW.trod enc Try.prog w 0 (fun _ => true) true n 54 cs = some x) :
    ∃ (X : ActX) (a : Option Addr) (c : Nat) (a' : Option Addr) (c' : Nat), cs = actL X a c a' c' ∧ ActOk w a a' X := by
  obtain ⟨y0, y1, y2, y3, m, hl, h0, h1, h2, h3⟩ := trod_struct4' Try.underlying54 h
  rw [cellsAct] at hl
  obtain ⟨v0, v1, v2, v3, v4, v5, v6, v7, v8, v9, v10, rfl⟩ := list11 hl
  have e0 : (([v0, v1, v2, v3, v4, v5, v6, v7, v8, v9, v10] : List Value).drop 0).take (Try.prog.cellsOf 3) = [v0] := by rw [cellsInt]; rfl
  have e1 : (([v0, v1, v2, v3, v4, v5, v6, v7, v8, v9, v10] : List Value).drop 1).take (Try.prog.cellsOf 30) = [v1, v2] := by rw [cellsPid]; rfl
  have e2 : (([v0, v1, v2, v3, v4, v5, v6, v7, v8, v9, v10] : List Value).drop 3).take (Try.prog.cellsOf 32) = [v3] := by rw [cellsBytes]; rfl
  have e3 : (([v0, v1, v2, v3, v4, v5, v6, v7, v8, v9, v10] : List Value).drop 4).take (Try.prog.cellsOf 41) = [v4, v5, v6, v7, v8, v9, v10] := by rw [cellsPack]; rfl
  have h0 := e0 ▸ h0
  have h1 := e1 ▸ h1
  have h2 := e2 ▸ h2
  have h3 := e3 ▸ h3
  obtain ⟨i0, hi0, _, wi0⟩ := DataW.trod_int Try.underlying3 h0
  obtain ⟨f1, f2, hp1, a1, a2, a3, a4⟩ := open_pid (x := y1) h1
  obtain ⟨a, c, bs, hcs, hr, hb, -⟩ := open_bytesK (x := y2) h2
  obtain ⟨Q, a', c', hq, hQ⟩ := open_packL (x := y3) h3
  cases hi0; cases hcs
  injection hp1 with hp1 hp1'
  injection hp1' with hp1' _
  subst hp1; subst hp1'
  have k0 := bounds_i64 wi0
  refine ⟨⟨i0, (f1, f2), bs, Q⟩, a, c, a', c', ?_, ⟨⟨by simp only; omega, by simp only; omega⟩, ⟨a1, a2, a3, a4⟩, ⟨hr, hb⟩, hQ⟩⟩
  unfold packL at hq
  unfold actL
  rw [hq]
set_option maxRecDepth 100000 in
theorem open_acts13 {base : Nat} {v : Value} {d : DataW H} {p : List MemPlace} (hv : Value.okWide Try.prog w .any base 47 v) (h : DataW.Trod enc Try.prog w 0 (fun _ => true) true 47 v d p) :
    ∃ (a : Option Addr) (c : Nat) (xs : List ActX), v = .slice a xs.length c ∧ ActRow w a xs ∧ xs.length ≤ c := by
  obtain ⟨a0, len0, cap0, rfl⟩ := Go.WideShapes.okWide_slice Try.underlying47 hv
  obtain ⟨fuel, hf⟩ := h
  rcases open_slice (x := (d, p)) Try.underlying47 (by simpa [Value.cells] using hf) with ⟨hcs, _⟩ | ⟨a, len, cap, m, k, D, Pl, hcs, _, hl, hm, hmm, hx, hel⟩
  · cases hcs
    exact ⟨none, 0, [], rfl, .inl rfl, Nat.le_refl _⟩
  · cases hcs
    simp only [if_true] at hmm
    subst hmm
    rw [cellsAct] at hel
    have hex : ∀ i, ∃ A : ActX, i < len0 → ∃ ai ci aj cj, (∀ j u, (actL A ai ci aj cj)[j]? = some u → w.cell? ((a.add (i * 11)).add j) = some u) ∧ ActOk w ai aj A := by
      intro i
      by_cases hi : i < len0
      · obtain ⟨cs', h1, h2⟩ := hel i (by omega)
        obtain ⟨A, ai, ci, aj, cj, rfl, hA⟩ := open_act13 h2
        obtain ⟨_, _, hc⟩ := World.cells?_some h1
        refine ⟨A, fun _ => ⟨ai, ci, aj, cj, fun j u hu => ?_, hA⟩⟩
        have hj := (List.getElem?_eq_some_iff.1 hu).1
        have := hc j (by simpa [actL] using hj)
        rw [this]
        exact hu
      · exact ⟨⟨0, (0, 0), [], ⟨0, (0, 0), (0, 0), 0, []⟩⟩, fun h => absurd h hi⟩
    obtain ⟨f, hf⟩ := Classical.axiomOfChoice hex
    refine ⟨some a, m, (List.range len0).map f, by simp, ?_, by simpa using hl⟩
    by_cases h0 : len0 = 0
    · subst h0; exact .inl rfl
    · obtain ⟨_, _, _, _, ha, _⟩ := hf 0 (by omega)
      have ha := ha 0 _ rfl
      have hsp : a.spot = none := by simpa [Addr.add] using World.cell?_spot ha
      obtain ⟨b, off, sp⟩ := a
      simp only at hsp
      subst hsp
      refine .inr ⟨b, off, rfl, ?_, fun i hi => ?_⟩
      · have := World.block_lt_of_cell? w _ ha
        simpa [addr_add] using this
      · have hi' : i < len0 := by simpa using hi
        obtain ⟨ai, ci, aj, cj, g1, g2⟩ := hf i hi'
        refine ⟨ai, ci, aj, cj, fun j u hu => ?_, by simpa using g2⟩
        have := g1 j u (by simpa using hu)
        rw [addr_add, addr_add] at this
        exact this
end
end Go.Proofs.Ytidohmpnefcpcaa

namespace Go.Proofs.Ytidohmpnefcpcaa
open Go.RowKit
/-! ### the law HubPair -/
theorem BytesOk.len {w : World} {a : Option Addr} {bs : List Nat} (h : BytesOk w a bs) : ∀ b off, a = some ⟨b, off, none⟩ → bs ≠ [] → b < w.heap.size := fun b off e hne => by
  rcases h.row with h1 | ⟨b', off', e', h1, -⟩
  · exact absurd h1 hne
  · rw [e] at e'; cases e'; exact h1
end Go.Proofs.Ytidohmpnefcpcaa

namespace Go.Proofs.Ytidohmpnefcpcaa
open Go.RowKit
/-! ### HubPlays: both hubs in one heap -/
structure Twin (w : World) (N : Nat → Prop) (h r : Nat) (sf : Pid) (L : List HubX) (x : Nat) (lv : Value) (P : List RPeer) : Prop where
  a : HubIs w N h r sf L
  b : RHubIs w N x sf lv P
  dis : ∀ b, fpX x lv P b → ¬ fpH h r L b
  lt : ∀ b, N b → b < w.heap.size
structure TwinR (w w' : World) (N N' : Nat → Prop) : Prop where
  mt : Mut N w w'
  up : ∀ b, N b → N' b
  nw : ∀ b, N' b → N b ∨ w.heap.size ≤ b
section
variable {w w' w3 : World} {N N' N3 : Nat → Prop} {h r x : Nat} {sf : Pid} {L L' : List HubX} {lv lv' : Value} {P P' : List RPeer}
theorem TwinR.trans (A : TwinR w w' N N') (B : TwinR w' w3 N' N3) : TwinR w w3 N N3 :=
  have hz := A.mt.size
  ⟨A.mt.transG B.mt fun b hb e => (A.nw b e).elim id fun e => absurd hb (by omega), fun b e => B.up b (A.up b e), fun b e => (B.nw b e).elim (fun e => A.nw b e) fun e => .inr (by omega)⟩
theorem TwinR.below (hb : Below w.heap.size w w') : TwinR w w' N N := ⟨Mut.of_below hb, fun _ e => e, fun _ e => .inl e⟩
theorem HubR.tw (R : HubR w w' N N' h r sf L L') (H : HubIs w N h r sf L) : TwinR w w' N N' := ⟨R.mt.mono fun b _ e => H.fp b e, R.up, R.nw⟩
theorem RHubR.tw (R : RHubR w w' N N' x sf lv P lv' P') (H : RHubIs w N x sf lv P) : TwinR w w' N N' := ⟨R.mt.mono fun b _ e => H.fp b e, R.up, R.nw⟩
theorem TwinR.cell (A : TwinR w w' N N') {p : Addr} {v : Value} (h : w.cell? p = some v) (hn : ¬ N p.block) : w'.cell? p = some v :=
  (A.mt.cell (World.block_lt_of_cell? w _ h) hn).trans h
theorem TwinR.not (A : TwinR w w' N N') {b : Nat} (hb : b < w.heap.size) (hn : ¬ N b) : ¬ N' b := fun e => (A.nw b e).elim hn fun e => by omega
theorem Twin.ext (T : Twin w N h r sf L x lv P) (hb : Below w.heap.size w w') : Twin w' N h r sf L x lv P :=
  ⟨T.a.ext hb, T.b.ext hb, T.dis, fun b e => Nat.lt_of_lt_of_le (T.lt b e) hb.size⟩
theorem Twin.stepA (T : Twin w N h r sf L x lv P) (R : HubR w w' N N' h r sf L L') : Twin w' N' h r sf L' x lv P :=
  ⟨R.is, (T.b.less (N' := N') (fun b e => R.up b (T.b.fp b e)) R.nw).mut R.mt (fun b _ e => R.up b (T.a.fp b e)) T.dis, fun b e e2 => by
    rcases R.fq b e2 with e3 | e3
    · exact T.dis b e e3
    · have := T.b.fplt b e; omega, R.lt⟩
theorem Twin.stepB (T : Twin w N h r sf L x lv P) (R : RHubR w w' N N' x sf lv P lv' P') : Twin w' N' h r sf L x lv' P' :=
  ⟨(T.a.less (N' := N') (fun b e => R.up b (T.a.fp b e)) R.nw).mut R.mt (fun b _ e => R.up b (T.b.fp b e)) fun b e e2 => T.dis b e2 e, R.is, fun b e e2 => by
    rcases R.fq b e with e3 | e3
    · exact T.dis b e3 e2
    · have := T.a.fplt b e2; omega, R.lt⟩
theorem RowN.stepT {k : Nat} {v : Value} {xs : List (List Value)} {ps : List (List Value × List Nat)} (R : RowN w N k v xs ps) (A : TwinR w w' N N') : RowN w' N' k v xs ps :=
  ⟨R.row.mut A.mt fun g e e2 => (R.bl g e).2 e2,
   (R.els.grow (N' := fun b => N' b ∨ v.ownBlock = some b) fun b e => by
     rcases e with e | e
     · exact (A.nw b e).elim (fun e => .inl (.inl e)) .inr
     · exact .inl (.inr e)).mut A.mt fun b _ e => .inl (A.up b e),
   fun g e => ⟨Nat.lt_of_lt_of_le (R.bl g e).1 A.mt.size, A.not (R.bl g e).1 (R.bl g e).2⟩⟩
theorem ROutR.rowN {pk : List PackD} {v : Value} {xs : List (List Value)} (R : ROutR w w' N x sf lv P P' pk v xs) (hN : ∀ b, N b → b < w.heap.size) : RowN w' N 7 v xs (pk.map packC) :=
  ⟨R.row.rowK, R.els, fun g e => ⟨(R.row.blk e).2, fun e2 => by have := (R.row.blk e).1; have := hN g e2; omega⟩⟩
theorem RArrR.rowN {fr : Pid} {ls : List (List Nat)} {v : Value} {xs : List (List Value)} (R : RArrR w w' N N' x sf lv P lv' P' fr ls v xs) : RowN w' N' 3 v xs (ls.map (gotC fr)) :=
  ⟨R.row.rowK, R.els, fun g e => ⟨(R.row.blk e).2, R.nv g e⟩⟩
theorem HubR.nil (H : HubIs w N h r sf L) : (hubD L).length ≤ 48 := by rw [hubD, List.length_map]; exact H.lim
end
theorem rpick_val {x n : Int} (hn : 0 < n) : (if x.tmod n < 0 then x.tmod n + n else x.tmod n) = x % n := by
  have h1 := Int.tmod_eq_emod (a := x) (b := n)
  have h2 := Int.emod_nonneg x (show n ≠ 0 by omega)
  have h3 := Int.emod_lt_of_pos x hn
  by_cases hc : 0 ≤ x ∨ n ∣ x
  · rw [if_pos hc] at h1
    rw [h1]; split <;> simp at * <;> omega
  · rw [if_neg hc] at h1
    have h5 : x % n ≠ 0 := fun e => hc (.inr (Int.dvd_of_emod_eq_zero e))
    have h4 : (n.natAbs : Int) = n := by omega
    rw [h1, h4]
    split <;> omega
theorem rpick_any (x n : Int) (w : World) (hn : 0 < n) (hn2 : n ≤ 4611686018427387904) (_hx : -9223372036854775808 ≤ x) (_hx2 : x ≤ 9223372036854775807) :
   Calls Try.prog 17 #[.int .i64 x, .int .i64 n] w fun e w' => e = .returned (.int .i64 (x % n)) ∧ w = w' := by
  have h1 : decide (n < 1) = false := by simp; omega
  have h0 : (n == 0) = false := by rw [beq_eq_false_iff_ne]; omega
  have hv := rpick_val (x := x) hn
  have hlt := Int.tmod_lt_of_pos x hn
  have hgt : -n < x.tmod n := by
    have := Int.tmod_lt_of_pos (-x) hn
    rw [Int.neg_tmod] at this; omega
  have hwr : IntKind.i64.wrap (x.tmod n) = x.tmod n := IntWalk.i64_in _ (by omega)
  have HV := hid hv
  by_cases hneg : x.tmod n < 0
  · have hneg' : decide (x.tmod n < 0) = true := by simpa using hneg
    have hq : x % n = x.tmod n + n := by rw [← hv, if_pos hneg]
    have HQ := hid hq
    clear hv hq
    go_enter Try.func17, Try.ntmps17
    go_wp2
    go_ret
    exact ⟨by rw [HQ.out]; rfl, rfl⟩
  · have hneg' : decide (x.tmod n < 0) = false := by simpa using hneg
    have hq : x % n = x.tmod n := by rw [← hv, if_neg hneg]
    have HQ := hid hq
    clear hv hq
    go_enter Try.func17, Try.ntmps17
    go_wp2
    go_ret
    exact ⟨by rw [HQ.out]; rfl, rfl⟩
/-- the acts are small -/
def Small13 (xs : List ActX) : Prop := ∀ i (h : i < xs.length), i < 100 → (xs[i]).b.length ≤ 300 ∧ (xs[i]).q.b.length ≤ 300
set_option maxRecDepth 100000 in
set_option maxHeartbeats 6400000 in
theorem great13_any {w : World} {a : Option Addr} {c : Nat} {xs : List ActX} (hR : ActRow w a xs) : Calls Try.prog 16 #[.slice a xs.length c] w fun e w' => ∃ g, e = .returned (.bool g) ∧ w' = w ∧ (g = false → Small13 xs) := by
  have HR := hid hR
  obtain ⟨n, hn⟩ : ∃ n, xs.length = n := ⟨_, rfl⟩
  rw [hn]
  have HN := hid hn
  clear hR hn
  go_enter Try.func16, Try.ntmps16
  go_wp2_with fail
  go_loopw [2, 3] (fun v i wr => v = .bool false ∧ ∃ k : Nat, i = .int .i64 k ∧ k ≤ n ∧ k ≤ 100 ∧ Hid (wr = w) ∧ Hid (∀ i (h : i < xs.length), i < k → (xs[i]).b.length ≤ 300 ∧ (xs[i]).q.b.length ≤ 300)) (fun _ i _ => n - (intOf i).toNat)
  case atStart => exact ⟨rfl, 0, rfl, Nat.zero_le _, Nat.zero_le _, (by first | exact hid rfl | exact hid trivial), hid fun i h hi => by omega⟩
  case round =>
    obtain ⟨rfl, k, rfl, hkn, hk100, HW, HK⟩ := hrel
    rename World => wr
    have hw : wr = w := HW.out
    by_cases hlt : k < n ∧ k < 100
    · have t1 : decide ((k : Int) < (n : Int)) = true := decide_eq_true (by omega)
      have t2 : decide (k < n) = true := decide_eq_true hlt.1
      have t3 : decide ((k : Int) < 100) = true := decide_eq_true (by omega)
      have t4 : decide (k < 100) = true := decide_eq_true hlt.2
      have hkl : k < xs.length := by rw [HN.out]; exact hlt.1
      obtain ⟨b, off, ai, ci, aj, cj, rfl, hb, hc, -⟩ := HR.out.at hkl
      obtain ⟨m, hm⟩ : ∃ m, (xs[k]).b.length = m := ⟨_, rfl⟩
      obtain ⟨m2, hm2⟩ : ∃ m2, (xs[k]).q.b.length = m2 := ⟨_, rfl⟩
      have c3 : wr.cell? ⟨b, off + k * 11 + 3, none⟩ = some (.slice ai m ci) := by rw [hw, ← hm]; exact hc 3 _ rfl
      have c10 : wr.cell? ⟨b, off + k * 11 + 10, none⟩ = some (.slice aj m2 cj) := by rw [hw, ← hm2]; exact hc 10 _ rfl
      have ix0 : (0 : Int) ≤ (k : Int) := Int.natCast_nonneg k
      have ix1 : (k : Int) < (n : Int) := by omega
      have HM := hid (And.intro hm hm2)
      have HKK := hid hlt
      have HKL := hid hkl
      clear hc hm hm2 hlt hw
      by_cases hm3 : 300 < m
      · have p1 : decide ((m : Int) > 300) = true := decide_eq_true (by omega)
        have p2 : decide (300 < m) = true := decide_eq_true hm3
        clear hm3
        go_wp2_with fail
        go_ret
        exact ⟨true, rfl, HW.out, fun h => by cases h⟩
      · have p1 : decide ((m : Int) > 300) = false := decide_eq_false (by omega)
        have p2 : decide (300 < m) = false := decide_eq_false hm3
        have HM3 := hid hm3
        clear hm3
        by_cases hm4 : 300 < m2
        · have p3 : decide ((m2 : Int) > 300) = true := decide_eq_true (by omega)
          have p4 : decide (300 < m2) = true := decide_eq_true hm4
          clear hm4
          go_wp2_with fail
          go_ret
          exact ⟨true, rfl, HW.out, fun h => by cases h⟩
        · have p3 : decide ((m2 : Int) > 300) = false := decide_eq_false (by omega)
          have p4 : decide (300 < m2) = false := decide_eq_false hm4
          have HM4 := hid hm4
          clear hm4
          go_wp2_with fail
          refine ⟨⟨rfl, k + 1, by go_num, by have := HKK.out; omega, by have := HKK.out; omega, HW, hid fun i h hi => ?_⟩, ?_⟩
          · by_cases hik : i < k
            · exact HK.out i h hik
            · have e : i = k := by omega
              subst e
              rw [HM.out.1, HM.out.2]
              exact ⟨Nat.not_lt.1 HM3.out, Nat.not_lt.1 HM4.out⟩
          · have := HKK.out
            simp [intOf]; omega
    · have HEND : Hid (∀ i (h : i < xs.length), i < 100 → (xs[i]).b.length ≤ 300 ∧ (xs[i]).q.b.length ≤ 300) := hid fun i h hi => HK.out i h (by have := HN.out; omega)
      by_cases hlt2 : k < n
      · have t1 : decide ((k : Int) < (n : Int)) = true := decide_eq_true (by omega)
        have t2 : decide (k < n) = true := decide_eq_true hlt2
        have t3 : decide ((k : Int) < 100) = false := decide_eq_false (by omega)
        have t4 : decide (k < 100) = false := decide_eq_false (by omega)
        clear hlt hlt2 hw
        go_wp2_with fail
        go_ret
        exact ⟨false, rfl, HW.out, fun _ => HEND.out⟩
      · have t1 : decide ((k : Int) < (n : Int)) = false := decide_eq_false (by omega)
        have t2 : decide (k < n) = false := decide_eq_false hlt2
        clear hlt hlt2 hw
        go_wp2_with fail
        go_ret
        exact ⟨false, rfl, HW.out, fun _ => HEND.out⟩
end Go.Proofs.Ytidohmpnefcpcaa

namespace Go.Proofs.Ytidohmpnefcpcaa
open Go.RowKit
/-! ### HubPlays: one act -/
structure ActIn (w : World) (N : Nat → Prop) (bx : Nat) (ai : Option Addr) (ci : Nat) (aj : Option Addr) (cj : Nat) (X : ActX) : Prop where
  cs : ∀ j u, (actL X ai ci aj cj)[j]? = some u → w.cell? ⟨bx, j, none⟩ = some u
  nb : ¬ N bx
  lt : bx < w.heap.size
  pp : ok X.p
  b : BytesOk w ai X.b
  fb : ∀ b off, ai = some ⟨b, off, none⟩ → X.b ≠ [] → ¬ N b
  q : PackOk w aj X.q
  fq : ∀ b off, aj = some ⟨b, off, none⟩ → X.q.b ≠ [] → ¬ N b
theorem ByteRow.lenT {w : World} {a : Option Addr} {bs : List Nat} (h : ByteRow w a bs) : ∀ b off, a = some ⟨b, off, none⟩ → bs ≠ [] → b < w.heap.size := fun b off e hne => by
  rcases h with h1 | ⟨b', off', e', h1, -⟩
  · exact absurd h1 hne
  · rw [e] at e'; cases e'; exact h1
section
variable {w w' : World} {N N' : Nat → Prop} {h r x bx ci cj m B : Nat} {ai aj : Option Addr} {sf : Pid} {L L' : List HubX} {lv lv' : Value} {P P' : List RPeer} {X : ActX}
theorem ActIn.step (A : ActIn w N bx ai ci aj cj X) (R : TwinR w w' N N') : ActIn w' N' bx ai ci aj cj X :=
  ⟨fun j u hu => R.cell (A.cs j u hu) A.nb, R.not A.lt A.nb, Nat.lt_of_lt_of_le A.lt R.mt.size, A.pp, ⟨A.b.row.mutT R.mt A.fb, A.b.lt⟩,
   fun b off e hne => R.not (A.b.row.lenT b off e hne) (A.fb b off e hne), ⟨A.q.kk, A.q.ff, A.q.tt, A.q.qq, A.q.rr.mutT R.mt A.fq, A.q.bb⟩,
   fun b off e hne => R.not (A.q.rr.lenT b off e hne) (A.fq b off e hne)⟩
theorem ActIn.ext (A : ActIn w N bx ai ci aj cj X) (hb : Below w.heap.size w w') : ActIn w' N bx ai ci aj cj X := A.step (TwinR.below hb)
theorem tw_send {c : Int} {H' : HubD} (T : Twin w N h r sf L x lv P) (A : ActIn w N bx ai ci aj cj X) (hm : X.b.length = m) (h300 : m ≤ 300) (hc : (sendR sf (hubD L) X.p X.b).1 = c) (hH : (sendR sf (hubD L) X.p X.b).2 = H') :
    Calls Try.prog 10 #[.pointer (some ⟨h, 0, none⟩), .agg #[.int .u16 X.p.1, .int .u32 X.p.2], .slice ai m ci] w fun e w' => e = .returned (.int .i64 c) ∧ ∃ N' L', Twin w' N' h r sf L' x lv P ∧ ActIn w' N' bx ai ci aj cj X ∧ TwinR w w' N N' ∧ hubD L' = H' := by
  refine (hsend_any (bc := ci) T.a T.lt X.p.1 X.p.2 A.pp (hid hm) (by omega) A.b.row A.b.lt fun b off e hne e2 => A.fb b off e hne (T.a.fp b e2)).mono ?_
  rintro e w' ⟨rfl, N', L', hR, hL⟩
  exact ⟨by rw [← hc], N', L', T.stepA hR, A.step (hR.tw T.a), hR.tw T.a, by rw [hL, ← hH]⟩
theorem tw_rsend {c : Int} {D' : RHubD} (T : Twin w N h r sf L x lv P) (A : ActIn w N bx ai ci aj cj X) (hF : ∀ y ∈ P, RFit y) (hm : X.b.length = m) (h300 : m ≤ 300) (hc : (rsendD sf (rD P) X.p X.b).1 = c) (hH : (rsendD sf (rD P) X.p X.b).2 = D') :
    Calls Try.prog 18 #[.pointer (some ⟨x, 0, none⟩), .agg #[.int .u16 X.p.1, .int .u32 X.p.2], .slice ai m ci] w fun e w' => e = .returned (.int .i64 c) ∧ ∃ N' lv' P', Twin w' N' h r sf L x lv' P' ∧ ActIn w' N' bx ai ci aj cj X ∧ TwinR w w' N N' ∧ rD P' = D' := by
  refine (rsend_any (bc := ci) T.b T.lt hF X.p.1 X.p.2 A.pp (hid hm) (by omega) A.b.row A.b.lt fun b off e hne e2 => A.fb b off e hne (T.b.fp b e2)).mono ?_
  rintro e w' ⟨rfl, N', lv', P', hR, hL⟩
  exact ⟨by rw [← hc], N', lv', P', T.stepB hR, A.step (hR.tw T.b), hR.tw T.b, by rw [hL, ← hH]⟩
theorem tw_tick {H' : HubD} (T : Twin w N h r sf L x lv P) (A : ActIn w N bx ai ci aj cj X) (hH : tickH (hubD L) = H') :
    Calls Try.prog 11 #[.pointer (some ⟨h, 0, none⟩)] w fun e w' => e = .returned (.tuple #[]) ∧ ∃ L', Twin w' N h r sf L' x lv P ∧ ActIn w' N bx ai ci aj cj X ∧ TwinR w w' N N ∧ hubD L' = H' := by
  refine (htick_any T.a T.lt).mono ?_
  rintro e w' ⟨rfl, L', hR, hL⟩
  exact ⟨rfl, L', T.stepA hR, A.step (hR.tw T.a), hR.tw T.a, by rw [hL, ← hH]⟩
theorem tw_rtick {D' : RHubD} (T : Twin w N h r sf L x lv P) (A : ActIn w N bx ai ci aj cj X) (hF : ∀ y ∈ P, RFit y) (hH : rtickD (rD P) = D') :
    Calls Try.prog 19 #[.pointer (some ⟨x, 0, none⟩)] w fun e w' => e = .returned (.tuple #[]) ∧ ∃ P', Twin w' N h r sf L x lv P' ∧ ActIn w' N bx ai ci aj cj X ∧ TwinR w w' N N ∧ rD P' = D' := by
  refine (rhtick_any T.b T.lt hF).mono ?_
  rintro e w' ⟨rfl, P', hR, hL⟩
  exact ⟨rfl, P', T.stepB hR, A.step (hR.tw T.b), hR.tw T.b, by rw [hL, ← hH]⟩
theorem tw_drop {q : Bool} {H' : HubD} (T : Twin w N h r sf L x lv P) (A : ActIn w N bx ai ci aj cj X) (hc : (look X.p (hubD L)).isSome = q) (hH : del X.p (hubD L) = H') :
    Calls Try.prog 22 #[.pointer (some ⟨h, 0, none⟩), .agg #[.int .u16 X.p.1, .int .u32 X.p.2]] w fun e w' => e = .returned (.bool q) ∧ ∃ L', Twin w' N h r sf L' x lv P ∧ ActIn w' N bx ai ci aj cj X ∧ TwinR w w' N N ∧ hubD L' = H' := by
  refine (hdrop_any T.a T.lt X.p.1 X.p.2).mono ?_
  rintro e w' ⟨rfl, L', hR, hL⟩
  exact ⟨by rw [← hc], L', T.stepA hR, A.step (hR.tw T.a), hR.tw T.a, by rw [hL, ← hH]⟩
theorem tw_rdrop {q : Bool} {D' : RHubD} (T : Twin w N h r sf L x lv P) (A : ActIn w N bx ai ci aj cj X) (hc : (look X.p (rD P)).isSome = q) (hH : del X.p (rD P) = D') :
    Calls Try.prog 23 #[.pointer (some ⟨x, 0, none⟩), .agg #[.int .u16 X.p.1, .int .u32 X.p.2]] w fun e w' => e = .returned (.bool q) ∧ ∃ N' lv' P', Twin w' N' h r sf L x lv' P' ∧ ActIn w' N' bx ai ci aj cj X ∧ TwinR w w' N N' ∧ rD P' = D' := by
  refine (rdrop_any T.b T.lt X.p.1 X.p.2).mono ?_
  rintro e w' ⟨rfl, N', lv', P', hR, hL, -⟩
  exact ⟨by rw [← hc], N', lv', P', T.stepB hR, A.step (hR.tw T.b), hR.tw T.b, by rw [hL, ← hH]⟩
theorem tw_out {pk : List PackD} {H' : HubD} (T : Twin w N h r sf L x lv P) (A : ActIn w N bx ai ci aj cj X) (hF : HFit B (hubD L)) (hB : B ≤ 900000) (hc : (outR sf (hubD L)).1 = pk) (hH : (outR sf (hubD L)).2 = H') :
    Calls Try.prog 12 #[.pointer (some ⟨h, 0, none⟩)] w fun e w' => ∃ v xs L', e = .returned v ∧ RowN w' N 7 v xs (pk.map packC) ∧ Twin w' N h r sf L' x lv P ∧ ActIn w' N bx ai ci aj cj X ∧ TwinR w w' N N ∧ hubD L' = H' := by
  refine (hout_any T.a T.lt (hub_fit hF) hB).mono ?_
  rintro e w' ⟨v, rfl, L', xs, hR, hL⟩
  exact ⟨v, xs, L', rfl, by rw [← hc]; exact hR.rowN T.lt, T.stepA hR.hub, A.step (hR.hub.tw T.a), hR.hub.tw T.a, by rw [hL, ← hH]⟩
theorem tw_rout {pk : List PackD} {v0 : Value} {xs0 : List (List Value)} {ps0 : List (List Value × List Nat)} (T : Twin w N h r sf L x lv P) (A : ActIn w N bx ai ci aj cj X) (R0 : RowN w N 7 v0 xs0 ps0) (hF : ∀ y ∈ P, RFit y) (hc : P.flatMap (routP sf) = pk) :
    Calls Try.prog 21 #[.pointer (some ⟨x, 0, none⟩)] w fun e w' => ∃ v xs P', e = .returned v ∧ RowN w' N 7 v xs (pk.map packC) ∧ RowN w' N 7 v0 xs0 ps0 ∧ Twin w' N h r sf L x lv P' ∧ ActIn w' N bx ai ci aj cj X ∧ TwinR w w' N N ∧ RoutL P P' := by
  refine (rhout_any T.b T.lt hF).mono ?_
  rintro e w' ⟨v, rfl, P', xs, hR, hL⟩
  exact ⟨v, xs, P', rfl, by rw [← hc]; exact hR.rowN T.lt, R0.stepT (hR.hub.tw T.b), T.stepB hR.hub, A.step (hR.hub.tw T.b), hR.hub.tw T.b, hL⟩
def packX (q : PackX) : PackD := ⟨q.k, q.f, q.t, q.q, q.b⟩
theorem tw_arr {ls : List (List Nat)} {H' : HubD} (T : Twin w N h r sf L x lv P) (A : ActIn w N bx ai ci aj cj X) (hF : HFit B (hubD L)) (hB : B ≤ 900000) (hm : X.q.b.length = m) (h300 : m ≤ 300) (hc : (arriveR sf (hubD L) (packX X.q)).1 = ls) (hH : (arriveR sf (hubD L) (packX X.q)).2 = H') :
    Calls Try.prog 13 #[.pointer (some ⟨h, 0, none⟩), .agg #[.int .i64 X.q.k, .int .u16 X.q.f.1, .int .u32 X.q.f.2, .int .u16 X.q.t.1, .int .u32 X.q.t.2, .int .u64 X.q.q, .slice aj m cj]] w fun e w' => ∃ v xs N' L', e = .returned v ∧ RowN w' N' 3 v xs (ls.map (gotC X.q.f)) ∧ Twin w' N' h r sf L' x lv P ∧ ActIn w' N' bx ai ci aj cj X ∧ TwinR w w' N N' ∧ hubD L' = H' := by
  refine (harrive_any (bc := cj) T.a T.lt (hub_fit hF) hB A.q.ff A.q.qq (hid hm) (by omega) A.q.rr A.q.bb fun b off e hne e2 => A.fq b off e hne (T.a.fp b e2)).mono ?_
  rintro e w' ⟨v, rfl, N', L', xs, hR, hL⟩
  exact ⟨v, xs, N', L', rfl, by rw [← hc]; exact hR.rowN, T.stepA hR.hub, A.step (hR.hub.tw T.a), hR.hub.tw T.a, by rw [hL, ← hH]; rfl⟩
theorem tw_rarr {ls : List (List Nat)} {D' : RHubD} {v0 : Value} {xs0 : List (List Value)} {ps0 : List (List Value × List Nat)} (T : Twin w N h r sf L x lv P) (A : ActIn w N bx ai ci aj cj X) (R0 : RowN w N 3 v0 xs0 ps0) (hF : ∀ y ∈ P, RFit2 B y) (hB : B ≤ 900000) (hm : X.q.b.length = m) (h300 : m ≤ 300) (hc : (rarriveD sf (rD P) (packX X.q)).1 = ls) (hH : (rarriveD sf (rD P) (packX X.q)).2 = D') :
    Calls Try.prog 25 #[.pointer (some ⟨x, 0, none⟩), .agg #[.int .i64 X.q.k, .int .u16 X.q.f.1, .int .u32 X.q.f.2, .int .u16 X.q.t.1, .int .u32 X.q.t.2, .int .u64 X.q.q, .slice aj m cj]] w fun e w' => ∃ v xs N' lv' P', e = .returned v ∧ RowN w' N' 3 v xs (ls.map (gotC X.q.f)) ∧ RowN w' N' 3 v0 xs0 ps0 ∧ Twin w' N' h r sf L x lv' P' ∧ ActIn w' N' bx ai ci aj cj X ∧ TwinR w w' N N' ∧ rD P' = D' := by
  refine (rarrive_any (bc := cj) T.b T.lt hF hB A.q.ff A.q.qq (hid hm) (by omega) A.q.rr A.q.bb fun b off e hne e2 => A.fq b off e hne (T.b.fp b e2)).mono ?_
  rintro e w' ⟨v, rfl, N', lv', P', xs, hR, hL⟩
  exact ⟨v, xs, N', lv', P', rfl, by rw [← hc]; exact hR.rowN, R0.stepT (hR.hub.tw T.b), T.stepB hR.hub, A.step (hR.hub.tw T.b), hR.hub.tw T.b, by rw [hL, ← hH]; rfl⟩
/-- where the play stands -/
structure Stage (W w : World) (N : Nat → Prop) (h r : Nat) (sf : Pid) (L : List HubX) (x : Nat) (lv : Value) (P : List RPeer) (B : Nat) : Prop where
  below : Below W.heap.size W w
  t : Twin w N h r sf L x lv P
  lo : ∀ b, N b → W.heap.size ≤ b
  rel : HRel (hubD L) (rD P)
  fit : HFit B (hubD L)
theorem Stage.step {W : World} (S : Stage W w N h r sf L x lv P B) (T : Twin w' N' h r sf L' x lv' P') (R : TwinR w w' N N') (hr : HRel (hubD L') (rD P')) (hf : HFit (B + 1) (hubD L')) : Stage W w' N' h r sf L' x lv' P' (B + 1) :=
  ⟨below_mutK S.below R.mt S.lo, T, fun b e => (R.nw b e).elim (S.lo b) fun e => Nat.le_trans S.below.size e, hr, hf⟩
theorem Stage.ext {W : World} (S : Stage W w N h r sf L x lv P B) (hb : Below w.heap.size w w') : Stage W w' N h r sf L x lv P B :=
  ⟨S.below.trans (hb.mono S.below.size), S.t.ext hb, S.lo, S.rel, S.fit⟩
theorem Stage.fits {W : World} (S : Stage W w N h r sf L x lv P B) (hB : B ≤ 900000) : (∀ y ∈ P, RFit2 B y) ∧ ∀ y ∈ P, RFit y := by
  have := rel_fit S.rel S.fit hB
  exact ⟨this, fun y hy => (this y hy).f⟩
end
/-- whose count is asked -/
def wcount (p : Pid) (P : List RPeer) : Nat := P.foldl (fun a y => if y.p = p then y.s.items.length else a) 0
theorem wcount_snoc (p : Pid) (P : List RPeer) (y : RPeer) : wcount p (P ++ [y]) = if y.p = p then y.s.items.length else wcount p P := by
  unfold wcount
  rw [List.foldl_append]; rfl
theorem wfold {p : Pid} : ∀ {P : List RPeer} {a : Nat}, (keys (rD P)).Nodup → P.foldl (fun a y => if y.p = p then y.s.items.length else a) a = match look p (rD P) with | none => a | some d => d.1.items.length
  | [], a, _ => rfl
  | y :: l, a, nd => by
    have nd' := List.nodup_cons.1 (show (y.p :: keys (rD l)).Nodup from nd)
    rw [List.foldl_cons, wfold nd'.2]
    have e : look p (rD (y :: l)) = if p = y.p then some (y.s, y.k) else look p (rD l) := rfl
    rw [e]
    by_cases h : p = y.p
    · rw [if_pos h, if_pos h.symm]
      have : look p (rD l) = none := look_no.2 (by rw [h]; exact nd'.1)
      rw [this]
    · rw [if_neg h, if_neg fun e => h e.symm]
theorem wcount_is {H : HubD} {P : List RPeer} {p : Pid} (R : HRel H (rD P)) : waitsR H p = wcount p P := by
  rw [waits_rel R]
  exact (wfold R.ndD).symm
theorem peers_is {H : HubD} {P : List RPeer} (R : HRel H (rD P)) : peersR H = P.map (·.p) := by
  have : peersR H = keys (rD P) := R.ks.symm
  rw [this]
  unfold keys rD
  rw [List.map_map]; rfl
end Go.Proofs.Ytidohmpnefcpcaa

namespace Go.Proofs.Ytidohmpnefcpcaa
open Go.RowKit
/-! ### HubPlays: what is compared is short -/
theorem rout_len (sf : Pid) (y : RPeer) : (routP sf y).length ≤ 17 := by
  unfold routP rackP
  have := rdueI_len y.s
  rw [List.length_append, List.length_map]
  split <;> simp <;> omega
theorem routs_len (sf : Pid) : ∀ P : List RPeer, (P.flatMap (routP sf)).length ≤ 17 * P.length
  | [] => by simp
  | y :: l => by
    have h1 := rout_len sf y
    have h2 := routs_len sf l
    rw [List.flatMap_cons, List.length_append, List.length_cons]; omega
theorem arr_len {B : Nat} {sf : Pid} {H : HubD} {D : RHubD} {q : PackD} (R : HRel H D) (hok : ok q.fr) (hF : HFit B H) (hB : 1 ≤ B) : (arriveR sf H q).1.length ≤ B + 1 := by
  unfold arriveR
  split
  · split
    · rcases R.link hok with ⟨e1, e2⟩ | ⟨H', D', e1, e2, R', hp, hf⟩
      · rw [e1]; simp
      · rw [e1]
        obtain ⟨d, hd⟩ := look_key hp
        simp only [hd]
        have := takeL_len d q.seq q.body
        have := ((hf B hB hF).look hd).hh
        omega
    · split
      · cases hd : look q.fr H with
        | none => simp
        | some d => simp
      · simp
  · simp
def routT (y : RPeer) : RPeer := { y with s := { y.s with told := rdueT y.s }, k := { y.k with owes := false } }
theorem routL_map (P : List RPeer) : RoutL P (P.map routT) :=
  ⟨by simp, fun i y h => ⟨routT y, by rw [List.getElem?_map, h]; rfl, ⟨rfl, rfl, rfl, rfl, rfl⟩⟩⟩
theorem got_map (fr : Pid) (ls : List (List Nat)) : (ls.map fun b => (fr, b)).map (fun p : Pid × List Nat => gotC p.1 p.2) = ls.map (gotC fr) := by
  rw [List.map_map]; rfl
theorem sameGt_is {w : World} {N N' : Nat → Prop} {v v' : Value} {xs xs' : List (List Value)} {fr : Pid} {ls : List (List Nat)} (R : RowN w N 3 v xs (ls.map (gotC fr))) (R' : RowN w N' 3 v' xs' (ls.map (gotC fr))) (hnl : ls.length ≤ 1000000) :
    Calls Try.prog 24 #[v, v'] w fun e w' => e = .returned (.bool true) ∧ Below w.heap.size w w' :=
  sameGt_true (pk := ls.map fun b => (fr, b)) R.row (by rw [got_map]; exact R.els) R'.row (by rw [got_map]; exact R'.els) (by rw [List.length_map]; exact hnl)
theorem samePk_is {w : World} {N N' : Nat → Prop} {v v' : Value} {xs xs' : List (List Value)} {pk : List PackD} (R : RowN w N 7 v xs (pk.map packC)) (R' : RowN w N' 7 v' xs' (pk.map packC)) (hnl : pk.length ≤ 1000000) :
    Calls Try.prog 20 #[v, v'] w fun e w' => e = .returned (.bool true) ∧ Below w.heap.size w w' :=
  samePk_true R.row R.els R'.row R'.els hnl
theorem Stage.extA {W w w' : World} {N : Nat → Prop} {h r x B bx ci cj : Nat} {ai aj : Option Addr} {sf : Pid} {L : List HubX} {lv : Value} {P : List RPeer} {X : ActX} (S : Stage W w N h r sf L x lv P B) (A : ActIn w N bx ai ci aj cj X) (hb : Below w.heap.size w w') : Stage W w' N h r sf L x lv P B ∧ ActIn w' N bx ai ci aj cj X := ⟨S.ext hb, A.ext hb⟩
end Go.Proofs.Ytidohmpnefcpcaa


/- Parts of the proof: X50 X36 NB OE O6 Z2 O7. -/
import Derived.Deep.MidRow
import Derived.Lib.SlBytesRow
import Derived.Lib.BufferRead
import Derived.Test.YtehagnbphamjhaaGreatDoorX35
namespace Go.Proofs.YtehagnbphamjhaaGreatDoor
open Go.RowKit

/-! ### local views -/
theorem atFrom_skip {p : Pid} : ∀ {pre suf : List Pid} {k : Nat}, p ∉ pre → atFrom p (pre ++ p :: suf) k = ((k + pre.length : Nat) : Int)
  | [], suf, k, _ => by simp [atFrom]
  | q :: r, suf, k, h => by
    simp only [List.mem_cons, not_or] at h
    simp only [List.cons_append, atFrom]
    rw [if_neg (fun e => h.1 e.symm), atFrom_skip h.2]
    simp; omega
/-- rows that stay where only blocks below base change -/
def Stab (base : Nat) (w : World) (am al ad : Option Addr) (V : View) : Prop := ∀ G : Nat → Prop, (∀ k, G k → k < base) → ∀ W', Mut G w W' → ViewR W' am al ad V
theorem Stab.r {base : Nat} {w : World} {am al ad : Option Addr} {V : View} (h : Stab base w am al ad V) : ViewR w am al ad V := h (fun _ => False) (fun _ e => e.elim) w (Mut.refl _ _)
theorem Stab.ext {base : Nat} {w w' : World} {am al ad : Option Addr} {V : View} (h : Stab base w am al ad V) (hb : Below w.heap.size w w') : Stab base w' am al ad V := fun G hG W' hm => h G hG W' ((Mut.of_below hb).trans hm)
theorem Stab.zero (base : Nat) (w : World) : Stab base w none none none zeroV := fun _ _ W' _ => ⟨.inl rfl, .inl rfl, .inl rfl, by simp [zeroV], by simp [zeroV], by simp [zeroV], by simp [zeroV]⟩
end Go.Proofs.YtehagnbphamjhaaGreatDoor

namespace Go.Proofs.YtehagnbphamjhaaGreatDoor
open Go.RowKit

/-! ### ViewBack -/
theorem OwnP.head {w : World} {base : Nat} {v : Value} {xs : List Pid} (h : OwnP w base v xs) (hx : 0 < xs.length) : ∃ g c, v = .slice (some ⟨g, 0, none⟩) xs.length c ∧ base ≤ g ∧ g < w.heap.size ∧ (∃ z : Int, w.cell? ⟨g, 1, none⟩ = some (.int .u32 z)) ∧ w.frozen? ⟨g, 1, none⟩ = false := by
  obtain ⟨a', c', e', hr, -⟩ := h.row
  have hfr : ∀ (g cap : Nat), v = .slice (some ⟨g, 0, none⟩) xs.length cap → w.frozen? ⟨g, 1, none⟩ = false := fun g cap hv => by
    subst hv
    exact World.ownsRow.frozenAt (e := 46) (size := 2) (base := base) (xs := pidCells xs) h 1
  rcases h.2 with ⟨rfl, hn⟩ | ⟨g, cap, cur, rfl, hb, hg, -⟩
  · omega
  · cases e'
    obtain ⟨b, off, x, y, e, -, -, d2⟩ := hr.at (Below.refl _ _) rfl hx
    cases e
    exact ⟨g, _, rfl, hb, (Array.getElem?_eq_some_iff.1 hg).1, ⟨y, by simpa using d2⟩, hfr g _ rfl⟩
theorem OwnLL.head {w : World} {base : Nat} {v : Value} {Ls : List (List Pid)} (h : OwnLL w base v Ls) (hx : 0 < Ls.length) : ∃ g c vi l, v = .slice (some ⟨g, 0, none⟩) Ls.length c ∧ base ≤ g ∧ g < w.heap.size ∧ w.cell? ⟨g, 0, none⟩ = some vi ∧ l ∈ Ls ∧ OwnP w base vi l := by
  obtain ⟨cells, ho, he⟩ := h
  have hcells := fun g => World.ownsRow.cells (g := g) ho
  obtain ⟨vi, h1, h2, -⟩ := he 0 hx
  rcases ho.2 with ⟨rfl, hn⟩ | ⟨g, cap, cur, rfl, hb, hg, -⟩
  · omega
  · have := hcells g rfl 0 _ h1
    rw [addr_add] at this
    exact ⟨g, cap, vi, Ls[0], rfl, hb, (Array.getElem?_eq_some_iff.1 hg).1, by simpa using this, List.getElem_mem _, h2⟩
theorem ViewR.own {w : World} {b1 b2 b3 : Nat} {V : View} {am al ad : Option Addr} {cm cl cd : Nat} (hm : OwnP w b1 (.slice am V.ms.length cm) V.ms) (hl : OwnLL w b2 (.slice al V.ls.length cl) V.ls) (hd : OwnP w b3 (.slice ad V.ds.length cd) V.ds) {w0 : World} {x y z : Option Addr} (hV : ViewR w0 x y z V) : ViewR w am al ad V := by
  obtain ⟨a1, c1, e1, r1, -⟩ := hm.row
  obtain ⟨a2, c2, e2, r2⟩ := hl.row
  obtain ⟨a3, c3, e3, r3, -⟩ := hd.row
  cases e1; cases e2; cases e3
  exact ⟨r1, r2, r3, hV.lm, hV.ll, hV.ld, hV.le⟩
end Go.Proofs.YtehagnbphamjhaaGreatDoor

namespace Go.Proofs.YtehagnbphamjhaaGreatDoor
open Go.RowKit
/-! ### state, stab, inbox: new -/
abbrev n64 : Nat → Value := fun x => .int .u64 (x : Int)
/-- a copy of a view: where it lies -/
structure VAd where
  am : Option Addr
  al : Option Addr
  ad : Option Addr
  cm : Nat
  cl : Nat
  cd : Nat
def vcl (V : View) (i : Nat) (A : VAd) : List Value := [.int .u64 i, .slice A.am V.ms.length A.cm, .slice A.al V.ls.length A.cl, .slice A.ad V.ds.length A.cd]
structure FitV (V : View) (i : Nat) : Prop where
  id : V.id = (i : Int)
  ms : V.ms.length ≤ 549755813888
  ds : V.ds.length ≤ 549755813888
  ls : V.ls.length ≤ 549755813888
  le : ∀ l ∈ V.ls, l.length ≤ 549755813888
theorem copyS_any {V : View} {i : Nat} {A : VAd} {w : World} (hf : FitV V i) (hV : ViewR w A.am A.al A.ad V) :
    Calls Tryz.prog 196 #[.agg (vcl V i A).toArray] w fun e w' => ∃ A' : VAd, e = .returned (.agg (vcl V i A').toArray) ∧ Stab w.heap.size w' A'.am A'.al A'.ad V ∧ Below w.heap.size w w' := by
  refine (viewCopy_any (cm := A.cm) (cl := A.cl) (cd := A.cd) hf.id hV hf.ms hf.ds hf.ls hf.le).mono ?_
  rintro e w' ⟨vm, vl, vd, B, rfl, h1, h2, h3, -, -, -, hB, hb⟩
  obtain ⟨am, cm, rfl, r1, -⟩ := h1.row
  obtain ⟨al, cl, rfl, r2⟩ := h2.row
  obtain ⟨ad, cd, rfl, r3, -⟩ := h3.row
  exact ⟨⟨am, al, ad, cm, cl, cd⟩, rfl, fun G hG W' hm => ViewR.own (OwnP.mutT h1 hm hG) ((h2.mono hB).mutT hm hG) (OwnP.mutT h3 hm hG) hV, hb⟩
theorem copyA_any {V : View} {i : Nat} {A : VAd} {w : World} (hf : FitV V i) (hV : ViewR w A.am A.al A.ad V) :
    Calls Tryz.prog 196 #[.agg (vcl V i A).toArray] w fun e w' => ∃ A' : VAd, e = .returned (.agg (vcl V i A').toArray) ∧ ViewR w' A'.am A'.al A'.ad V ∧ Below w.heap.size w w' :=
  (copyS_any hf hV).mono fun _ _ ⟨A', h1, h2, h3⟩ => ⟨A', h1, h2.r, h3⟩
def emptyB : List Value := [.string ⟨#[]⟩, .string ⟨#[]⟩, .string ⟨#[]⟩, .string ⟨#[]⟩, .string ⟨#[]⟩, .string ⟨#[]⟩, .string ⟨#[]⟩, .string ⟨#[]⟩]
structure StateNew (w w' : World) (V : View) (i : Nat) (b mr : Nat) (A : VAd) : Prop where
  lt : w.heap.size ≤ b
  mlt : w.heap.size ≤ mr
  below : Below w.heap.size w w'
  box : BoxL w' b 302 (vcl V i A ++ .map (some mr) :: emptyB)
  view : ViewR w' A.am A.al A.ad V
  map : MapIs w' mr pidV n64 []
set_option maxRecDepth 100000 in
set_option maxHeartbeats 3200000 in
theorem stateNew_any {V : View} {i : Nat} {A : VAd} {w : World} (hf : FitV V i) (hV : ViewR w A.am A.al A.ad V) :
    Calls Tryz.prog 144 #[.agg (vcl V i A).toArray] w fun e w' => ∃ b mr A', e = .returned (.pointer (some ⟨b, 0, none⟩)) ∧ StateNew w w' V i b mr A' := by
  have hmm := @run_makeMap Tryz.prog
  obtain ⟨am, al, ad, cm, cl, cd⟩ := A
  obtain ⟨m1, e1⟩ : ∃ q, V.ms.length = q := ⟨_, rfl⟩
  obtain ⟨m2, e2⟩ : ∃ q, V.ls.length = q := ⟨_, rfl⟩
  obtain ⟨m3, e3⟩ : ∃ q, V.ds.length = q := ⟨_, rfl⟩
  obtain ⟨W1, hW1⟩ : ∃ W1, w.alloc (.cells #[.int .u64 i, .slice am m1 cm, .slice al m2 cl, .slice ad m3 cd] 54) = W1 := ⟨_, rfl⟩
  have hb1 : Below w.heap.size w W1 := by rw [← hW1]; exact (Below.refl _ _).alloc (Nat.le_refl _) _
  have c0 : W1.cell? ⟨w.heap.size, 0, none⟩ = some (.int .u64 i) := by rw [← hW1]; simp
  have c1 : W1.cell? ⟨w.heap.size, 1, none⟩ = some (.slice am m1 cm) := by rw [← hW1]; simp
  have c2 : W1.cell? ⟨w.heap.size, 2, none⟩ = some (.slice al m2 cl) := by rw [← hW1]; simp
  have c3 : W1.cell? ⟨w.heap.size, 3, none⟩ = some (.slice ad m3 cd) := by rw [← hW1]; simp
  have C1 := copyA_any (A := ⟨am, al, ad, cm, cl, cd⟩) hf (hV.ext hb1)
  have hx : (vcl V i ⟨am, al, ad, cm, cl, cd⟩).toArray = #[.int .u64 i, .slice am m1 cm, .slice al m2 cl, .slice ad m3 cd] := by unfold vcl; rw [e1, e2, e3]
  rw [hx] at C1 ⊢
  have C1 := hid C1
  have HB1 := hid hb1
  have HE := hid (And.intro e1 (And.intro e2 e3))
  clear hb1 hx e1 e2 e3 hV
  go_enter Tryz.func144, Tryz.ntmps144
  go_wp2_with fail
  refine C1.out.mono ?_
  rintro e w2 ⟨⟨am', al', ad', cm', cl', cd'⟩, rfl, hv2, hb2⟩
  have HV2 := hid hv2
  have HB2 := hid (HB1.out.trans (hb2.mono HB1.out.size))
  have hy : (vcl V i ⟨am', al', ad', cm', cl', cd'⟩).toArray = #[.int .u64 i, .slice am' m1 cm', .slice al' m2 cl', .slice ad' m3 cd'] := by unfold vcl; rw [HE.out.1, HE.out.2.1, HE.out.2.2]
  rw [hy]
  clear hv2 hb2 C1 c0 c1 c2 c3 hW1 hy
  go_wp2_with fail
  go_ret
  have hbm := HB2.out.alloc HB2.out.size (.map #[] 0)
  refine ⟨w2.heap.size + 1, w2.heap.size, ⟨am', al', ad', cm', cl', cd'⟩, rfl, ⟨?_, ?_, ?_, ?_, ?_, ?_⟩⟩
  · have := HB2.out.size; simp; omega
  · have := HB2.out.size; omega
  · exact hbm.alloc hbm.size _
  · have h := BoxL.madeN (w2.alloc (.map #[] 0)) 302 (vcl V i ⟨am', al', ad', cm', cl', cd'⟩ ++ .map (some w2.heap.size) :: emptyB) (n := w2.heap.size + 1) (by simp)
    have hc : (vcl V i ⟨am', al', ad', cm', cl', cd'⟩ ++ .map (some w2.heap.size) :: emptyB).toArray = #[.int .u64 i, .slice am' m1 cm', .slice al' m2 cl', .slice ad' m3 cd', .map (some w2.heap.size), .string ⟨#[]⟩, .string ⟨#[]⟩, .string ⟨#[]⟩, .string ⟨#[]⟩, .string ⟨#[]⟩, .string ⟨#[]⟩, .string ⟨#[]⟩, .string ⟨#[]⟩] := by unfold vcl emptyB; rw [HE.out.1, HE.out.2.1, HE.out.2.2]; rfl
    rw [hc] at h
    exact h
  · exact HV2.out.ext (((Below.refl _ _).alloc (Nat.le_refl _) _).alloc (by simp) _)
  · exact (MapIs.made w2).alloc _
end Go.Proofs.YtehagnbphamjhaaGreatDoor

namespace Go.Proofs.YtehagnbphamjhaaGreatDoor
open Go.RowKit
/-! ### the library's texts: Split, CutSuffix, Atoi, Itoa, IndexByte, HasPrefix -/
theorem var_extP {w w' : World} {name : String} {v : Array Value} (h : w.var? Tryz.prog name = some v) (hb : Below w.heap.size w w') : w'.var? Tryz.prog name = some v := by
  unfold World.var? at h ⊢
  cases hg : Tryz.prog.globalNamed name with
  | none => simp [hg] at h
  | some g =>
    simp only [hg, Option.bind_some] at h ⊢
    cases hk : w.heap[g]? with
    | none => simp [hk] at h
    | some o =>
      have hlt : g < w.heap.size := (Array.getElem?_eq_some_iff.1 hk).1
      rw [hb.block g hlt]
      exact h
/-- what the library's variables hold -/
structure EnvP (w : World) : Prop where
  tab : TabOk w
  syn : ∃ t p, w.var? Tryz.prog "strconv.ErrSyntax" = some #[.iface t p]
  rng : ∃ t p, w.var? Tryz.prog "strconv.ErrRange" = some #[.iface t p]
  max : ∃ m : Int, w.cell? ⟨Tryz.split_ren.g 1, 0, none⟩ = some (.int .i64 m)
theorem EnvP.ext {w w' : World} (h : EnvP w) (hb : Below w.heap.size w w') : EnvP w' := by
  obtain ⟨t1, p1, h1⟩ := h.syn
  obtain ⟨t2, p2, h2⟩ := h.rng
  obtain ⟨m, h3⟩ := h.max
  exact ⟨h.tab.ext hb, ⟨t1, p1, var_extP h1 hb⟩, ⟨t2, p2, var_extP h2 hb⟩, ⟨m, (hb.cell (World.block_lt_of_cell? w _ h3)).trans h3⟩⟩
theorem bszP (s : Str) : (⟨s.toArray⟩ : ByteArray).size = s.length := by show s.toArray.size = _; simp
theorem bdlP (s : Str) : (⟨s.toArray⟩ : ByteArray).data.toList = s := by simp
def isOkP {α : Type} : Lib.NumEnd α → Bool
  | .ok _ => true
  | _ => false
/-- a row of texts -/
def StrRow (w : World) (b : Nat) (ws : List Str) : Prop := b < w.heap.size ∧ ∀ k (h : k < ws.length), w.cell? ⟨b, k, none⟩ = some (.string ⟨ws[k].toArray⟩)
theorem StrRow.ext {w w' : World} {b B : Nat} {ws : List Str} (h : StrRow w b ws) (hb : Below B w w') (hB : b < B) : StrRow w' b ws :=
  ⟨Nat.lt_of_lt_of_le h.1 hb.size, fun k hk => (hb.cell (p := ⟨b, k, none⟩) (by exact hB)).trans (h.2 k hk)⟩
theorem splitP_any (s : Str) (c : UInt8) (hs : s.length ≤ 40000000) (w : World) (he : EnvP w) :
    Calls Tryz.prog 33 #[.string ⟨s.toArray⟩, .string ⟨[c].toArray⟩] w fun e w' => e = .returned (.slice (some ⟨w.heap.size, 0, none⟩) (Lib.split s [c]).length (Lib.split s [c]).length) ∧ StrRow w' w.heap.size (Lib.split s [c]) ∧ Below w.heap.size w w' := by
  obtain ⟨m, hm⟩ := he.max
  have hz : (⟨s.toArray⟩ : ByteArray).size < 4294967281 := by rw [bszP]; omega
  have h1 : 1 ≤ (⟨[c].toArray⟩ : ByteArray).size := by rw [bszP]; simp
  have h := Any.strings_Split Tryz.split (by kernel_rfl) ⟨s.toArray⟩ ⟨[c].toArray⟩ m w hz hm h1
  have hd := Lib.splitB_data ⟨[c].toArray⟩ 0 (Lib.countB ⟨s.toArray⟩ ⟨[c].toArray⟩) ⟨s.toArray⟩
  have hl := Lib.splitB_all ⟨[c].toArray⟩ h1 0 (Lib.countB ⟨s.toArray⟩ ⟨[c].toArray⟩) ⟨s.toArray⟩ rfl
  have hc : Lib.splitK [c] 0 (Lib.countB ⟨s.toArray⟩ ⟨[c].toArray⟩) s = Lib.split s [c] := by unfold Lib.split Lib.countB; simp
  have hd2 : (Lib.splitB ⟨[c].toArray⟩ 0 (Lib.countB ⟨s.toArray⟩ ⟨[c].toArray⟩) ⟨s.toArray⟩).map (·.data.toList) = Lib.split s [c] := by rw [← hc]; simpa using hd
  refine Calls.mono h ?_
  rintro e w' ⟨rfl, rfl⟩
  generalize Lib.splitB ⟨[c].toArray⟩ 0 (Lib.countB ⟨s.toArray⟩ ⟨[c].toArray⟩) ⟨s.toArray⟩ = B at hd2 hl
  have hlen : B.length = (Lib.split s [c]).length := by rw [← hd2, List.length_map]
  refine ⟨by rw [← hl, hlen], ⟨by simp, fun k hk => ?_⟩, (Below.refl _ _).alloc (Nat.le_refl _) _⟩
  have hkb : k < B.length := by omega
  have e : (Lib.split s [c])[k] = B[k].data.toList := by simp [← hd2]
  rw [World.cell?_alloc_mark, e]
  simp [List.getElem?_eq_getElem hkb]
theorem cutsufP_any (s : Str) (c : UInt8) (hs : s.length ≤ 40000000) (w : World) :
    Calls Tryz.prog 32 #[.string ⟨s.toArray⟩, .string ⟨[c].toArray⟩] w fun e w' => e = .returned (.tuple #[.string ⟨(Lib.trimSuffix s [c]).toArray⟩, .bool (Lib.hasSuffix s [c])]) ∧ w' = w := by
  have h := Any.strings_CutSuffix Tryz.cutsuf ⟨s.toArray⟩ ⟨[c].toArray⟩ w (by rw [bszP]; omega)
  refine Calls.mono h ?_
  rintro e w' ⟨rfl, rfl⟩
  exact ⟨by simp, rfl⟩
def AtResP (s : Str) (u : Int) (ev : Value) : Prop := (Lib.atoiAll s = .ok u ∧ ev = .nilIface) ∨ (isOkP (Lib.atoiAll s) = false ∧ ∃ (t : TypeId) (N : Nat), ev = .iface t (.pointer (some ⟨N, 0, none⟩)))
theorem atoiP_any (s : Str) (hs : s.length ≤ 40000000) (w : World) (he : EnvP w) :
    Calls Tryz.prog 55 #[.string ⟨s.toArray⟩] w fun e w' => ∃ u ev, e = .returned (.tuple #[.int .i64 u, ev]) ∧ AtResP s u ev ∧ Below w.heap.size w w' := by
  obtain ⟨t1, p1, h1⟩ := he.syn
  obtain ⟨t2, p2, h2⟩ := he.rng
  rcases hr : Lib.atoiAll s with n | _ | _
  · refine Calls.mono (Any.strconv_Atoi_ok Tryz.atoi ⟨s.toArray⟩ (by rw [bszP]; omega) n (by rw [bdlP]; exact hr) w) ?_
    rintro e w' ⟨rfl, rfl | ⟨t, rfl⟩⟩
    · exact ⟨_, _, rfl, .inl ⟨hr, rfl⟩, Below.refl _ _⟩
    · exact ⟨_, _, rfl, .inl ⟨hr, rfl⟩, Lib.bytesWorld_below _ _ _⟩
  · refine Calls.mono (Any.strconv_Atoi_syntax_var Tryz.atoi ⟨s.toArray⟩ (by rw [bszP]; omega) (by rw [bdlP]; exact hr) t1 p1 w h1) ?_
    rintro e w' ⟨N, rfl, -, -, hb⟩
    exact ⟨_, _, rfl, .inr ⟨by rw [hr]; rfl, _, N, rfl⟩, hb⟩
  · refine Calls.mono (Any.strconv_Atoi_range_var Tryz.atoi ⟨s.toArray⟩ (by rw [bszP]; omega) (by rw [bdlP]; exact hr) t2 p2 w h2) ?_
    rintro e w' ⟨N, rfl, -, -, hb⟩
    exact ⟨_, _, rfl, .inr ⟨by rw [hr]; rfl, _, N, rfl⟩, hb⟩
theorem growBelow (w : World) (k : Nat) (os : Array Obj) : Below w.heap.size w (Go.Sort.grow (w.drewN k) os) :=
  ⟨rfl, rfl, rfl, by simp [Go.Sort.grow], fun i hi => by simp [Go.Sort.grow, Array.getElem?_append, hi]⟩
theorem itoaP_any (n : Int) (h0 : -9223372036854775808 ≤ n) (h1 : n ≤ 9223372036854775807) (w : World) (ht : TabOk w) :
    Calls Tryz.prog 37 #[.int .i64 n] w fun e w' => e = .returned (.string ⟨(Lib.itoa n).toArray⟩) ∧ Below w.heap.size w w' := by
  refine Calls.mono (Any.strconv_Itoa Tryz.itoa n h0 h1 w ht) ?_
  rintro e w' ⟨rfl, k, os, rfl⟩
  exact ⟨rfl, growBelow w k os⟩
theorem hasPrefixP_any (s p : Str) (w : World) : Calls Tryz.prog 56 #[.string ⟨s.toArray⟩, .string ⟨p.toArray⟩] w fun e w' => e = .returned (.bool (Lib.hasPrefix s p)) ∧ w' = w := by
  refine Calls.mono (Any.strings_HasPrefix Tryz.hasprefix ⟨s.toArray⟩ ⟨p.toArray⟩ w) ?_
  rintro e w' ⟨rfl, rfl⟩
  exact ⟨by simp, rfl⟩
theorem indexByteP_any (s : Str) (c : UInt8) (w : World) : Calls Tryz.prog 84 #[.string ⟨s.toArray⟩, .int .u8 (c.toNat : Int)] w fun e w' => e = .returned (.int .i64 (Lib.indexByte s c)) ∧ w' = w := by
  refine Calls.mono (Any.strings_IndexByte Tryz.indexb ⟨s.toArray⟩ (c.toNat : Int) w) ?_
  rintro e w' ⟨rfl, rfl⟩
  exact ⟨by simp, rfl⟩
end Go.Proofs.YtehagnbphamjhaaGreatDoor

namespace Go.Proofs.YtehagnbphamjhaaGreatDoor
open Go.RowKit
/-! ### play: event, digits -/
def eventP (x : EvX) : Str := if x.kind = 1 then [32, 86] ++ Lib.decDigits x.V.id.toNat else if x.kind = 2 then [32] ++ printP x.fr ++ [35] ++ Lib.decDigits x.num else if x.kind = 3 then [32, 66] else if x.kind = 4 then [32, 88] else []
theorem eventP_len {w : World} {A : EvA} {x : EvX} (h : EvR w A x) : (eventP x).length ≤ 80 := by
  have h1 := dec_len x.V.id.toNat 19 (by have := h.wf.id; omega)
  have h2 := dec_len x.num 19 (by have := h.num; omega)
  obtain ⟨f1, f2, f3, f4⟩ := h.fr
  have h3 := dec_len x.fr.1.toNat 19 (by omega)
  have h4 := dec_len x.fr.2.toNat 19 (by omega)
  unfold eventP printP
  split
  · simp; omega
  · split
    · simp; omega
    · split
      · simp
      · split <;> simp
set_option maxRecDepth 100000 in
set_option maxHeartbeats 3200000 in
theorem event_any {x : EvX} {A : EvA} {w : World} (h : EvR w A x) (ht : TabOk w) :
    Calls Tryz.prog 25 #[.agg (evC x A).toArray] w fun e w' => e = .returned (.string ⟨(eventP x).toArray⟩) ∧ Below w.heap.size w w' := by
  obtain ⟨k, ⟨id, ms, ls, ds⟩, ⟨f1, f2⟩, num, data⟩ := x
  obtain ⟨am, al, ad, a, cm, cl, cd, c⟩ := A
  have hid0 := h.wf.id
  obtain ⟨hf1, hf2, hf3, hf4⟩ := h.fr
  have hnum := h.num
  simp only at hid0 hf1 hf2 hf3 hf4 hnum
  clear h
  obtain ⟨i, rfl⟩ : ∃ i : Nat, id = (i : Int) := ⟨id.toNat, by omega⟩
  obtain ⟨p, rfl⟩ : ∃ p : Nat, f1 = (p : Int) := ⟨f1.toNat, by omega⟩
  obtain ⟨q, rfl⟩ : ∃ q : Nat, f2 = (q : Int) := ⟨f2.toNat, by omega⟩
  obtain ⟨m1, e1⟩ : ∃ m, ms.length = m := ⟨_, rfl⟩
  obtain ⟨m2, e2⟩ : ∃ m, ls.length = m := ⟨_, rfl⟩
  obtain ⟨m3, e3⟩ : ∃ m, ds.length = m := ⟨_, rfl⟩
  obtain ⟨m4, e4⟩ : ∃ m, data.length = m := ⟨_, rfl⟩
  unfold evC
  simp only [e1, e2, e3, e4]
  clear e1 e2 e3 e4
  show Calls Tryz.prog 25 #[.agg #[.int .i64 k, .int .u64 i, .slice am m1 cm, .slice al m2 cl, .slice ad m3 cd, .int .u16 p, .int .u32 q, .int .u64 num, .slice a m4 c]] w _
  obtain ⟨W1, hW1⟩ : ∃ W1, w.alloc (.cells #[.int .i64 k, .int .u64 i, .slice am m1 cm, .slice al m2 cl, .slice ad m3 cd, .int .u16 p, .int .u32 q, .int .u64 num, .slice a m4 c] 57) = W1 := ⟨_, rfl⟩
  have hb1 : Below w.heap.size w W1 := by rw [← hW1]; exact (Below.refl _ _).alloc (Nat.le_refl _) _
  have c0 : W1.cell? ⟨w.heap.size, 0, none⟩ = some (.int .i64 k) := by rw [← hW1]; simp
  have c1 : W1.cell? ⟨w.heap.size, 1, none⟩ = some (.int .u64 i) := by rw [← hW1]; simp
  have c5 : W1.cell? ⟨w.heap.size, 5, none⟩ = some (.int .u16 p) := by rw [← hW1]; simp
  have c6 : W1.cell? ⟨w.heap.size, 6, none⟩ = some (.int .u32 q) := by rw [← hW1]; simp
  have c7 : W1.cell? ⟨w.heap.size, 7, none⟩ = some (.int .u64 num) := by rw [← hW1]; simp
  have HT := hid (ht.ext hb1)
  have HB := hid hb1
  clear ht hb1
  unfold eventP
  simp only [Int.toNat_natCast]
  by_cases h1 : k = 1
  · subst h1
    rw [if_pos rfl]
    have C1 := hid (fmt_any i (by omega) W1 HT.out)
    have l1 := dec_len i 19 (by omega)
    obtain ⟨D, hD⟩ : ∃ D, Lib.decDigits i = D := ⟨_, rfl⟩
    rw [hD] at C1 l1
    rw [hD]
    have a0 := run_cat [32, 86] D (by simp) (by omega)
    clear l1 hD
    go_enter Tryz.func25, Tryz.ntmps25
    go_wp2_with fail
    refine C1.out.mono ?_
    rintro e w2 ⟨rfl, hb2⟩
    have HB2 := hid (HB.out.trans (hb2.mono HB.out.size))
    clear hb2 C1 c0 c1 c5 c6 c7 hW1
    go_wp2_with fail
    go_ret
    exact ⟨rfl, HB2.out⟩
  · rw [if_neg h1]
    by_cases h2 : k = 2
    · subst h2
      rw [if_pos rfl]
      obtain ⟨PP, hPP⟩ : ∃ PP, printP ((p : Int), (q : Int)) = PP := ⟨_, rfl⟩
      have CP : ∀ V : ExtW W1, Calls Tryz.prog 24 #[.agg #[.int .u16 p, .int .u32 q]] V.W fun e w' => e = .returned (.string ⟨PP.toArray⟩) ∧ ∃ V' : ExtW W1, w' = V'.W := fun V => by
        refine (print_any (x := p) (y := q) (by omega) (by omega) V.W (HT.out.ext V.h)).mono ?_
        rintro e w' ⟨rfl, hb⟩
        exact ⟨by rw [hPP], ⟨_, V.h.trans (hb.mono V.h.size)⟩, rfl⟩
      obtain ⟨D, hD⟩ : ∃ D, Lib.decDigits num = D := ⟨_, rfl⟩
      have CF : ∀ V : ExtW W1, Calls Tryz.prog 40 #[.int .u64 (num : Int), .int .i64 10] V.W fun e w' => e = .returned (.string ⟨D.toArray⟩) ∧ ∃ V' : ExtW W1, w' = V'.W := fun V => by
        refine (fmt_any num hnum V.W (HT.out.ext V.h)).mono ?_
        rintro e w' ⟨rfl, hb⟩
        exact ⟨by rw [hD], ⟨_, V.h.trans (hb.mono V.h.size)⟩, rfl⟩
      have CP := hid CP
      have CF := hid CF
      have lD : D.length ≤ 20 := by rw [← hD]; exact dec_len num 19 (by omega)
      have lP : PP.length ≤ 41 := by
        rw [← hPP]
        have g1 := dec_len p 19 (by omega)
        have g2 := dec_len q 19 (by omega)
        unfold printP
        simp; omega
      rw [hPP, hD]
      have a0 := run_cat [32] PP (by simp) (by omega)
      have a1 := run_cat ([32] ++ PP) [35] (by simp; omega) (by simp)
      have a2 := run_cat ([32] ++ PP ++ [35]) D (by simp; omega) (by omega)
      obtain ⟨S1, hS1⟩ : ∃ S, [32] ++ PP = S := ⟨_, rfl⟩
      rw [hS1] at a0 a1 a2
      rw [hS1]
      obtain ⟨S2, hS2⟩ : ∃ S, S1 ++ [35] = S := ⟨_, rfl⟩
      rw [hS2] at a1 a2
      rw [hS2]
      clear hS1 hS2 lD lP hD hPP hid0 hf1 hf2 hf3 hf4 hnum
      have f5 := cell_extY c5
      have f6 := cell_extY c6
      have f7 := cell_extY c7
      go_enter Tryz.func25, Tryz.ntmps25
      go_wp2_with fail
      clear hW1 c0 c1 c5 c6 c7
      refine wp_region_ext (w := W1) (Below.refl _ _) (by kernel_rfl) (by kernel_rfl) ?_
      repeat (go_big_quiet_step (first | with_reducible exact CP.out _ | with_reducible exact CF.out _))
      refine wpQuiet_nil ?_
      rintro w9 ⟨⟨_, hb9⟩, rfl⟩
      have HB9 := hid (HB.out.trans (hb9.mono HB.out.size))
      clear hb9 CP CF a0 a1 a2 f5 f6 f7
      go_wp2_with fail
      go_ret
      exact ⟨rfl, HB9.out⟩
    · rw [if_neg h2]
      by_cases h3 : k = 3
      · subst h3
        rw [if_pos rfl]
        go_enter Tryz.func25, Tryz.ntmps25
        go_wp2_with fail
        go_ret
        exact ⟨rfl, HB.out⟩
      · rw [if_neg h3]
        by_cases h4 : k = 4
        · subst h4
          rw [if_pos rfl]
          go_enter Tryz.func25, Tryz.ntmps25
          go_wp2_with fail
          go_ret
          exact ⟨rfl, HB.out⟩
        · rw [if_neg h4]
          have g1 : (k == 1) = false := by simpa using h1
          have g2 : (k == 2) = false := by simpa using h2
          have g3 : (k == 3) = false := by simpa using h3
          have g4 : (k == 4) = false := by simpa using h4
          clear hid0 hf1 hf2 hf3 hf4 hnum c1 c5 c6 c7 h1 h2 h3 h4
          go_enter Tryz.func25, Tryz.ntmps25
          go_wp2_with fail
          go_ret
          exact ⟨rfl, HB.out⟩
end Go.Proofs.YtehagnbphamjhaaGreatDoor

namespace Go.Proofs.YtehagnbphamjhaaGreatDoor
open Go.RowKit
/-! ### bits.Hex -/
theorem ByteRow.twoZ (w : World) (x y : Nat) : ByteRow (w.alloc (.cells #[.int .u8 x, .int .u8 y] 5)) (some ⟨w.heap.size, 0, none⟩) [x, y] :=
  .inr ⟨w.heap.size, 0, rfl, by simp, fun i hi => by
    have : i = 0 ∨ i = 1 := by simp at hi; omega
    rcases this with rfl | rfl <;> simp⟩
def natsOf (s : Str) : List Nat := s.map (·.toNat)
theorem run_bytes_str {w : World} {a : Option Addr} {c n : Nat} {s : Str} (hr : ByteRow w a (natsOf s)) (hn : s.length = n) : (convert 55 9 (.slice a n c)).run Tryz.prog w = .ok (.string ⟨s.toArray⟩) w := by
  subst hn
  have hz : (⟨s.toArray⟩ : ByteArray).size = s.length := by show s.toArray.size = _; simp
  have nil : ∀ b, s = [] → a = some b → (convert 55 9 (.slice a s.length c)).run Tryz.prog w = .ok (.string ⟨s.toArray⟩) w := by
    rintro ad rfl rfl
    rw [run_convert_bytes_string w _ _ 5 _ _ c Tryz.underlying55 Tryz.underlying5 Tryz.underlying9]
    have h0 : (loadCells ad 0).run Tryz.prog w = .ok (([] : List Int).map (Value.int .u8)).toArray w := run_loadCells_list (w := w) ad [] (by simp)
    have := run_bytesToString w ad 0 c [] h0
    exact this
  cases a with
  | none =>
    rcases hr with h | ⟨b, off, e, -⟩
    · have hs : s = [] := by simpa [natsOf] using h
      subst hs
      exact Lib.run_convert_nil_bytes w _ _ 5 c Tryz.underlying55 Tryz.underlying5 Tryz.underlying9
    · cases e
  | some ad =>
    rcases hr with h | ⟨b, off, e, hlt, hc⟩
    · exact nil ad (by simpa [natsOf] using h) rfl
    · cases e
      have := Lib.run_convert_whole (P := Tryz.prog) w 55 5 9 Tryz.underlying55 Tryz.underlying5 Tryz.underlying9 b off ⟨s.toArray⟩ (fun i hi => by
        have := hc i (by rw [hz] at hi; simpa [natsOf] using hi)
        rw [this]
        simp [natsOf]; rfl) c
      rw [hz] at this
      exact this
theorem run_hexI (n : Nat) (h : n < 16) (W : World) : (Instr.index 9 (.string ⟨#[48, 49, 50, 51, 52, 53, 54, 55, 56, 57, 97, 98, 99, 100, 101, 102]⟩) (.int .u8 (n : Int))).run Tryz.prog W = .ok (.int .u8 ((hexD n).toNat : Int)) W := by
  have hz : (⟨#[48, 49, 50, 51, 52, 53, 54, 55, 56, 57, 97, 98, 99, 100, 101, 102]⟩ : ByteArray).size = 16 := rfl
  rw [run_index_string W 9 _ .u8 _ Tryz.underlying9, dif_pos (by rw [hz]; omega)]
  have : n = 0 ∨ n = 1 ∨ n = 2 ∨ n = 3 ∨ n = 4 ∨ n = 5 ∨ n = 6 ∨ n = 7 ∨ n = 8 ∨ n = 9 ∨ n = 10 ∨ n = 11 ∨ n = 12 ∨ n = 13 ∨ n = 14 ∨ n = 15 := by omega
  rcases this with rfl | rfl | rfl | rfl | rfl | rfl | rfl | rfl | rfl | rfl | rfl | rfl | rfl | rfl | rfl | rfl <;> rfl
end Go.Proofs.YtehagnbphamjhaaGreatDoor

namespace Go.Proofs.YtehagnbphamjhaaGreatDoor
open Go.RowKit
/-! ### play: digits, shapes, line -/
set_option maxHeartbeats 3200000 in
theorem digitsP_any {a : Option Addr} {c n : Nat} {bs : List Nat} {w : World} (hn : Hid (bs.length = n)) (hnl : n ≤ 1000000) (hb : ∀ b ∈ bs, b < 256) (hx : ByteRow w a bs) :
    Calls Tryz.prog 52 #[.slice a n c] w fun e w' => e = .returned (.string ⟨(hexP bs).toArray⟩) ∧ Below w.heap.size w w' := by
  have HX := hid hx
  have HB := hid hb
  clear hx hb
  go_enter Tryz.func52, Tryz.ntmps52
  go_wp2_with fail
  have HO0 : Hid (OwnB w w.heap.size (.slice none 0 0) []) := hid (OwnB.nil _ _)
  have HB0 : Hid (Below w.heap.size w w) := hid (Below.refl _ _)
  go_loopw [3, 8] (fun v iv wr => ∃ (out : Str) (k : Nat), iv = .int .i64 k ∧ k ≤ n ∧ out.length ≤ 2 * k ∧ Hid (out ++ hexP (bs.drop k) = hexP bs) ∧ Hid (OwnB wr w.heap.size v (natsOf out)) ∧ Hid (Below w.heap.size w wr)) (fun _ iv _ => n - (intOf iv).toNat)
  case atStart => exact ⟨[], 0, rfl, Nat.zero_le _, by simp, hid rfl, HO0, HB0⟩
  case round =>
    obtain ⟨out, k, rfl, hk, hol, hf, hown, hbw⟩ := hrel
    clear HO0 HB0
    by_cases hlt : k < n
    · have hk1 : k < bs.length := by rw [hn.out]; exact hlt
      obtain ⟨b, o, x, rfl, hxk, q0⟩ := HX.out.at hbw.out rfl hk1
      have hx256 : x < 256 := by rw [hxk]; exact HB.out _ (List.getElem_mem hk1)
      have HD := hid (hexP_drop hk1 hxk)
      have hol2 : (out ++ [hexD (x / 16)] ++ [hexD (x % 16)]).length ≤ 2 * (k + 1) := by simp; omega
      have HO := hid hol2
      have HLN : Hid ((natsOf out).length ≤ 2000000) := hid (by simp [natsOf]; omega)
      have HSZ := hid hbw.out.size
      clear hxk hol hol2
      go_wp2_with fail
      have UI1 := run_hexI (x / 16) (by omega)
      have UI2 := run_hexI (x % 16) (by omega)
      have e1 : ((x / 16 : Nat) : Int) = (x : Int) / 16 := by omega
      have e2 : ((x % 16 : Nat) : Int) = (x : Int) % 16 := by omega
      have e3 : bits .and .u8 (x : Int) 15 = (x : Int) % 16 := by
        have := u8_and_nat x 15 hx256 (by omega)
        rw [show ((15 : Nat) : Int) = 15 from rfl] at this
        rw [this, show x &&& 15 = x % 16 from Nat.and_two_pow_sub_one_eq_mod x 4]; omega
      rw [e1] at UI1
      rw [e2] at UI2
      obtain ⟨h1, eh1⟩ : ∃ h1, (hexD (x / 16)).toNat = h1 := ⟨_, rfl⟩
      obtain ⟨h2, eh2⟩ : ∃ h2, (hexD (x % 16)).toNat = h2 := ⟨_, rfl⟩
      rw [eh1] at UI1
      rw [eh2] at UI2
      have hq := (Below.refl wr.heap.size wr).alloc (Nat.le_refl _) (.cells #[.int .u8 h1, .int .u8 h2] 5)
      have HO1 : Hid (OwnB (wr.alloc (.cells #[.int .u8 h1, .int .u8 h2] 5)).drew w.heap.size u3 (natsOf out)) := hid ((hown.out.ext hq).ext (Below.refl _ _).drew)
      have HR1 : Hid (ByteRow (wr.alloc (.cells #[.int .u8 h1, .int .u8 h2] 5)).drew (some ⟨wr.heap.size, 0, none⟩) [h1, h2]) := hid ((ByteRow.twoZ wr h1 h2).ext (Below.refl _ _).drew)
      have H0 : Below w.heap.size w wr := hbw.out
      have H0' : Below w.heap.size w wr.drew := hbw.out.drew
      have H1 : Below w.heap.size w (wr.alloc (.cells #[.int .u8 h1, .int .u8 h2] 5)).drew := (hbw.out.alloc hbw.out.size _).drew
      have EH : Hid (natsOf (out ++ [hexD (x / 16)] ++ [hexD (x % 16)]) = natsOf out ++ [h1, h2]) := hid (by simp [natsOf, eh1, eh2])
      clear e1 e2 eh1 eh2 hq
      go_region_held3 (fun W => Below w.heap.size w W) (first | exact H0 | exact H0' | exact H1 | assumption) (first | ((refine step_appendB (by rfl) HO1.out HR1.out (hid rfl) (by simp; have := HLN.out; omega) (by simp; have := HSZ.out; omega) rfl rfl rfl ?_; intro v2 w2 hown2 hg2; have hb2 : Below w.heap.size w w2 := below_of_grown H1 hg2 HO1.out (by simp; have := HSZ.out; omega) (Nat.le_refl _))))
      all_goals (
        have HO2 : Hid (OwnB w2 w.heap.size v2 (natsOf (out ++ [hexD (x / 16)] ++ [hexD (x % 16)]))) := hid (by rw [EH.out]; exact hown2)
        have HB2 := hid hb2
        clear hown2 hg2 hb2 H0 H0' H1 UI1 UI2 q0 e3
        go_wp2_with fail
        go_roundw
        case rel => exact ⟨out ++ [hexD (x / 16)] ++ [hexD (x % 16)], k + 1, by go_num, by omega, HO.out, hid (by rw [← hf.out, HD.out, List.append_assoc, List.append_assoc]), HO2, HB2⟩
        case measure => simp [intOf]; omega)
    · have hke : bs.drop k = [] := List.drop_eq_nil_of_le (by rw [hn.out]; omega)
      have hres : out = hexP bs := by rw [← hf.out, hke]; simp [hexP]
      subst hres
      obtain ⟨a1, c1, rfl, hr1, -⟩ := hown.out.row
      have hl1 : (natsOf (hexP bs)).length = 2 * n := by unfold natsOf; rw [List.length_map, hexP_len, hn.out]
      rw [hl1]
      have hcv := run_bytes_str (c := c1) hr1 (n := 2 * n) (by rw [hexP_len, hn.out])
      clear hl1 hr1 hown
      go_wp2_with fail
      go_ret
      exact ⟨rfl, hbw.out⟩
/-! shapes -/
theorem below_setCells {B b : Nat} : ∀ (vs : List Value) (o : Nat) {w0 w : World}, Below B w0 w → B ≤ b → Below B w0 (w.setCells b o vs)
  | [], _, _, _, h, _ => h
  | v :: vs, o, _, _, h, hb => below_setCells vs (o + 1) (h.setCell (by simpa using hb) _) hb
def shC (x : Shape) : List Value := [.int .i64 x.kind, .string ⟨x.word.toArray⟩, .bool x.two, .bool x.bytes]
/-- all shapes' cells -/
def shL : List Value := shapesP.flatMap shC
theorem infoShL : (Tryz.prog.info? 113).map (·.size) = some shL.length := by kernel_rfl
theorem infoShA : (Tryz.prog.info? 113).map (·.size) = some shL.toArray.size := by kernel_rfl
theorem shL_one : shL.toArray.all (·.oneCell') = true := by kernel_rfl
theorem there_made (w : World) (cs : Array Value) (t : TypeId) : (w.alloc (.cells cs t)).there w.heap.size 0 cs.size := fun j hj => ⟨by rw [Nat.zero_add, World.cell?_alloc_mark]; simp [hj], by rw [Nat.zero_add, frozen?_alloc_cells]; unfold World.frozen?; rw [Array.getElem?_eq_none (by simp)]⟩
theorem results_cell_midP {P : Program} {fn : Func} {p : Tmp} {ty : TypeId} (h : fn.results = #[.cell p ty]) (tmps : Array Value) (w : World) (b o : Nat) (cs : List Value) (d : TypeDesc)
    (hp : tmps.getD p undef = .pointer (some ⟨b, o, none⟩)) (hc : w.rangeAt b o cs)
    (hu : P.underlying ty = some d) (hd : d.isRow = true) (hi : (P.info? ty).map (·.size) = some cs.length) :
    (results fn tmps).run P w = .ok (.agg cs.toArray) w := by
  have hp' : tmps[p]?.getD undef = .pointer (some ⟨b, o, none⟩) := by simpa using hp
  simp [results, h, hp', asAddr, run_loadVar_mid w b o ty cs d hc hu hd hi]
/-- all shapes, one value -/
def shV : Value := .agg shL.toArray
set_option maxRecDepth 100000 in
set_option maxHeartbeats 3200000 in
theorem shapes_any (w : World) : Calls Tryz.prog 51 #[] w fun e w' => e = .returned shV ∧ Below w.heap.size w w' := by
  have hu := Tryz.underlying113
  go_enter Tryz.func51, Tryz.ntmps51
  go_wp2_with (first | (refine wpList_store_mid rfl 113 _ _ rfl w.heap.size 0 shL.toArray rfl (by kernel_rfl) (there_made w _ _) infoShA shL_one ?_))
  refine bodyPost_ret (v := shV) (results_cell_midP (p := 0) (ty := 113) rfl _ _ w.heap.size 0 shL _ rfl (World.rangeAt_setCells_same _ _ _ _ (there_made w _ _)) hu rfl infoShL) rfl ⟨rfl, below_setCells _ _ ((Below.refl _ _).alloc (Nat.le_refl _) _) (Nat.le_refl _)⟩
set_option maxRecDepth 100000 in
/-- the shape at a place -/
theorem shape_idx {k : Nat} {x : Shape} (h : shapesP[k]? = some x) (W : World) : (Instr.index 113 shV (.int .i64 k)).run Tryz.prog W = .ok (.agg (shC x).toArray) W := by
  have hk : k < 13 := by have := (List.getElem?_eq_some_iff.1 h).1; simpa [shapesP] using this
  have : k = 0 ∨ k = 1 ∨ k = 2 ∨ k = 3 ∨ k = 4 ∨ k = 5 ∨ k = 6 ∨ k = 7 ∨ k = 8 ∨ k = 9 ∨ k = 10 ∨ k = 11 ∨ k = 12 := by omega
  rcases this with rfl | rfl | rfl | rfl | rfl | rfl | rfl | rfl | rfl | rfl | rfl | rfl | rfl <;> (have e := Option.some.inj h; subst e; rfl)
end Go.Proofs.YtehagnbphamjhaaGreatDoor


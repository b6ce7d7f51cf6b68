import Derived.Test.YtbpfhclcjedkcaaX35
import Derived.Test.YtbpfhclcjedkcaaA1
namespace Go.Proofs.Ytbpfhclcjedkcaa
open Go.RowKit

/-! ### local views -/
def localV (V : View) (p : Pid) : View :=
  if checkB V = true ∧ 0 ≤ leafIx V.ls p then (let l := V.ls.getD (leafIx V.ls p).toNat []; ⟨V.id, l, [l], l⟩) else zeroV
theorem leafIx_lt {ls : List (List Pid)} {p : Pid} {k : Nat} : ∀ {j : Nat}, leafFrom p ls j = (k : Int) → j ≤ k ∧ ∃ h : k - j < ls.length, p ∈ ls[k - j] := by
  induction ls with
  | nil => intro j h; simp [leafFrom] at h <;> omega
  | cons l r ih =>
    intro j h
    simp only [leafFrom] at h
    split at h
    · next hp =>
      have : k - j = 0 := by omega
      refine ⟨by omega, ?_⟩
      simp only [this]
      exact ⟨by simp, by simpa using hp⟩
    · obtain ⟨h1, h2, h3⟩ := ih h
      refine ⟨by omega, ?_⟩
      have e : k - j = (k - (j + 1)) + 1 := by omega
      simp only [e]
      exact ⟨by simp; omega, by simpa using h3⟩
theorem leafFrom_ge {p : Pid} : ∀ {ls : List (List Pid)} {j : Nat}, leafFrom p ls j = -1 ∨ 0 ≤ leafFrom p ls j
  | [], j => .inl rfl
  | l :: r, j => by
    unfold leafFrom
    split
    · exact .inr (by omega)
    · exact leafFrom_ge
theorem localV_no {V : View} {p : Pid} (h : checkB V = false ∨ leafIx V.ls p < 0) : localV V p = zeroV := by
  unfold localV
  rw [if_neg]
  rintro ⟨h1, h2⟩
  rcases h with h | h
  · rw [h] at h1; cases h1
  · omega
theorem localV_yes {V : View} {p : Pid} {k : Nat} {l : List Pid} (h : checkB V = true) (hk : leafIx V.ls p = (k : Int)) (hl : V.ls[k]? = some l) : localV V p = ⟨V.id, l, [l], l⟩ := by
  unfold localV
  rw [if_pos ⟨h, by omega⟩, hk]
  simp [hl]
theorem localV_kinds (V : View) (p : Pid) : (localV V p = zeroV ∧ (checkB V = false ∨ leafIx V.ls p < 0)) ∨ ∃ (k : Nat) (l : List Pid), checkB V = true ∧ leafIx V.ls p = (k : Int) ∧ V.ls[k]? = some l ∧ p ∈ l ∧ localV V p = ⟨V.id, l, [l], l⟩ := by
  cases hc : checkB V
  · exact .inl ⟨localV_no (.inl hc), .inl rfl⟩
  · by_cases hn : leafIx V.ls p < 0
    · exact .inl ⟨localV_no (.inr hn), .inr hn⟩
    · obtain ⟨k, hk⟩ := Int.eq_ofNat_of_zero_le (by omega : 0 ≤ leafIx V.ls p)
      obtain ⟨-, h2, h3⟩ := leafIx_lt (j := 0) hk
      simp only [Nat.sub_zero] at h2 h3
      have hl : V.ls[k]? = some V.ls[k] := List.getElem?_eq_getElem h2
      exact .inr ⟨k, _, rfl, hk, hl, h3, localV_yes hc hk hl⟩
theorem atFrom_skip {p : Pid} : ∀ {pre suf : List Pid} {k : Nat}, p ∉ pre → atFrom p (pre ++ p :: suf) k = ((k + pre.length : Nat) : Int)
  | [], suf, k, _ => by simp [atFrom]
  | q :: r, suf, k, h => by
    simp only [List.mem_cons, not_or] at h
    simp only [List.cons_append, atFrom]
    rw [if_neg (fun e => h.1 e.symm), atFrom_skip h.2]
    simp; omega
theorem ris_self : ∀ {suf pre : List Pid}, (pre ++ suf).Nodup → risFrom (ranksL (pre ++ suf)) ((pre.length : Int) - 1) suf = true
  | [], pre, _ => rfl
  | p :: r, pre, h => by
    have hp : p ∉ pre := fun hm => by
      have := (List.nodup_append.1 h).2.2 p hm p (List.mem_cons_self ..)
      exact this rfl
    have e : atIx (pre ++ p :: r) p = ((pre.length : Nat) : Int) := by unfold atIx; rw [atFrom_skip hp]; simp
    unfold risFrom
    rw [look_ranksL]
    unfold rankO
    rw [e, if_neg (by omega)]
    simp only
    rw [if_neg (by omega)]
    have h2 : ((pre ++ [p]) ++ r).Nodup := by simpa using h
    have := ris_self (suf := r) (pre := pre ++ [p]) h2
    simp only [List.append_assoc, List.cons_append, List.nil_append, List.length_append, List.length_cons, List.length_nil] at this
    rw [show ((pre.length : Nat) : Int) = (((pre.length + (0 + 1) : Nat)) : Int) - 1 by omega]
    exact this
theorem ris_mem {S : List (Pid × Int)} : ∀ {l : List Pid} {z : Int}, risFrom S z l = true → ∀ p ∈ l, (look p S).isSome = true
  | [], z, _, p, hp => by cases hp
  | q :: r, z, h, p, hp => by
    unfold risFrom at h
    cases hq : look q S with
    | none => rw [hq] at h; cases h
    | some k =>
      rw [hq] at h
      simp only at h
      split at h
      · cases h
      · rcases List.mem_cons.1 hp with rfl | hp
        · rw [hq]; rfl
        · exact ris_mem h p hp
theorem mem_of_rank {ms : List Pid} {p : Pid} (h : (look p (ranksL ms)).isSome = true) : p ∈ ms := by
  rw [look_ranksL] at h
  unfold rankO at h
  by_cases hp : p ∈ ms
  · exact hp
  · have : ∀ (l : List Pid) (k : Nat), p ∉ l → atFrom p l k = -1 := by
      intro l
      induction l with
      | nil => intro k _; rfl
      | cons q r ih =>
        intro k hn
        simp only [List.mem_cons, not_or] at hn
        unfold atFrom
        rw [if_neg (fun e => hn.1 e.symm)]
        exact ih _ hn.2
    rw [show atIx ms p = -1 from this ms 0 hp] at h
    simp at h
theorem lens_mem {l : List Pid} : ∀ {ls : List (List Pid)}, l ∈ ls → l.length ≤ lens ls
  | m :: r, h => by
    have e : lens (m :: r) = m.length + lens r := rfl
    rw [e]
    rcases List.mem_cons.1 h with rfl | h
    · omega
    · have := lens_mem h; omega
/-- a leaf of a view that may be is a view that may be, and its own local one -/
theorem check_leaf {V : View} (h : checkB V = true) {l : List Pid} (hl : l ∈ V.ls) : checkB ⟨V.id, l, [l], l⟩ = true := by
  unfold checkB at h ⊢
  simp only [Bool.and_eq_true, decide_eq_true_eq] at h ⊢
  obtain ⟨h1, h2, h3, h4⟩ := h
  rw [chkFrom_iff] at h4
  obtain ⟨h5, h6⟩ := h4
  unfold chkEnd at h6
  simp only [Bool.and_eq_true, decide_eq_true_eq, Nat.zero_add] at h6
  obtain ⟨h7, h8, -⟩ := h6
  unfold membersB at h3
  rw [memFrom_iff] at h3
  obtain ⟨⟨h9, h10⟩, h11, h12, -⟩ := h3
  have hne := (h5 l hl).1
  have hris := (h5 l hl).2
  have hfl : lens V.ls = V.ls.flatten.length := by
    have : ∀ ls : List (List Pid), lens ls = ls.flatten.length := by
      intro ls
      induction ls with
      | nil => rfl
      | cons m r ih =>
        have e : lens (m :: r) = m.length + lens r := rfl
        rw [e, ih]; simp
    exact this _
  rw [hfl, unionL_nodup] at h8
  have hnd : l.Nodup := (List.pairwise_flatten.1 h8).1 l hl
  have hsub : ∀ p ∈ l, p ∈ V.ms := fun p hp => mem_of_rank (ris_mem hris p hp)
  have hinj : ∀ p ∈ V.ms, ∀ q ∈ V.ms, p.1 = q.1 → p = q := by
    have : ∀ ms : List Pid, ms.Pairwise (fun p q => p.1 ≠ q.1) → ∀ p ∈ ms, ∀ q ∈ ms, p.1 = q.1 → p = q := by
      intro ms
      induction ms with
      | nil => intro _ p hp; cases hp
      | cons m r ih =>
        intro hpw p hp q hq e
        rw [List.pairwise_cons] at hpw
        rcases List.mem_cons.1 hp with hp2 | hp2 <;> rcases List.mem_cons.1 hq with hq2 | hq2
        · rw [hp2, hq2]
        · exact absurd (hp2 ▸ e) (hpw.1 q hq2)
        · exact absurd (hq2 ▸ e.symm) (hpw.1 p hp2)
        · exact ih hpw.2 p hp2 q hq2 e
    exact this _ h12
  have hself : risFrom (ranksL l) (-1) l = true := by
    have := ris_self (suf := l) (pre := []) (by simpa using hnd)
    simpa using this
  have hlen : 0 < l.length := List.length_pos_iff.2 hne
  have hle : l.length ≤ V.ms.length := by rw [← h7]; exact lens_mem hl
  refine ⟨h1, h2, ?_, ?_⟩
  · unfold membersB
    rw [memFrom_iff]
    refine ⟨⟨hlen, by omega⟩, fun p hp => h11 p (hsub p hp), ?_, by simp [keys]⟩
    have : ∀ m : List Pid, m.Nodup → (∀ p ∈ m, p ∈ V.ms) → m.Pairwise (fun p q => p.1 ≠ q.1) := by
      intro m
      induction m with
      | nil => intro _ _; exact .nil
      | cons q r ih =>
        intro hq hs
        rw [List.nodup_cons] at hq
        refine List.pairwise_cons.2 ⟨fun p hp e => hq.1 ?_, ih hq.2 (fun p hp => hs p (List.mem_cons_of_mem _ hp))⟩
        rw [hinj q (hs q (List.mem_cons_self ..)) p (hs p (List.mem_cons_of_mem _ hp)) e]; exact hp
    exact this l hnd hsub
  · rw [chkFrom_iff]
    refine ⟨fun m hm => ?_, ?_⟩
    · have : m = l := by simpa using hm
      subst this
      exact ⟨hne, hself⟩
    · unfold chkEnd
      simp only [Bool.and_eq_true, decide_eq_true_eq]
      have e1 : lens [l] = l.length := by show l.length + 0 = l.length; omega
      refine ⟨by rw [e1]; simp, ?_, ?_, hne, hself⟩
      · rw [e1, Nat.zero_add]
        have : [l].flatten = l := by simp
        rw [this, unionL_nodup]; exact hnd
      · cases l with
        | nil => exact absurd rfl hne
        | cons q r =>
          simp only [heads, List.head?_cons, Option.toList_some, List.nil_append, List.append_nil]
          unfold risFrom at hself
          unfold risFrom
          cases hq : look q (ranksL (q :: r)) with
          | none => rw [hq] at hself; cases hself
          | some k =>
            rw [hq] at hself
            simp only at hself ⊢
            split at hself
            · cases hself
            · next hk => rw [if_neg hk]; rfl
theorem localV_self {V : View} {p : Pid} (h : 0 < (localV V p).id) : checkB (localV V p) = true ∧ localV (localV V p) p = localV V p := by
  rcases localV_kinds V p with ⟨e, -⟩ | ⟨k, l, hc, hk, hl, hp, e⟩
  · rw [e] at h; simp [zeroV] at h
  · rw [e]
    have hm : l ∈ V.ls := List.mem_of_getElem? hl
    have h2 := check_leaf hc hm
    refine ⟨h2, localV_yes (k := 0) h2 ?_ rfl⟩
    show leafFrom p [l] 0 = ((0 : Nat) : Int)
    unfold leafFrom
    rw [if_pos hp]
theorem localV_id {V : View} {p : Pid} {i : Nat} (h : V.id = (i : Int)) : ∃ j : Nat, (localV V p).id = (j : Int) ∧ j ≤ i := by
  rcases localV_kinds V p with ⟨e, -⟩ | ⟨k, l, hc, hk, hl, hp, e⟩
  · rw [e]; exact ⟨0, rfl, Nat.zero_le _⟩
  · rw [e]; exact ⟨i, h, Nat.le_refl _⟩
theorem localV_len {V : View} {p : Pid} {n : Nat} (h : ∀ l ∈ V.ls, l.length ≤ n) (h1 : 1 ≤ n) : (localV V p).ms.length ≤ n ∧ (localV V p).ls.length ≤ n ∧ (localV V p).ds.length ≤ n ∧ (∀ l ∈ (localV V p).ls, l.length ≤ n) ∧ lens (localV V p).ls ≤ n := by
  rcases localV_kinds V p with ⟨e, -⟩ | ⟨k, l, hc, hk, hl, hp, e⟩
  · rw [e]; simp [zeroV, lens]
  · rw [e]
    have := h l (List.mem_of_getElem? hl)
    have e1 : lens [l] = l.length := by show l.length + 0 = l.length; omega
    refine ⟨this, by simp; omega, this, fun m hm => ?_, by rw [e1]; exact this⟩
    have : m = l := by simpa using hm
    subst this; assumption
/-- rows that stay where only blocks below base change -/
def Stab (base : Nat) (w : World) (am al ad : Option Addr) (V : View) : Prop := ∀ G : Nat → Prop, (∀ k, G k → k < base) → ∀ W', Mut G w W' → ViewR W' am al ad V
theorem Stab.r {base : Nat} {w : World} {am al ad : Option Addr} {V : View} (h : Stab base w am al ad V) : ViewR w am al ad V := h (fun _ => False) (fun _ e => e.elim) w (Mut.refl _ _)
theorem Stab.ext {base : Nat} {w w' : World} {am al ad : Option Addr} {V : View} (h : Stab base w am al ad V) (hb : Below w.heap.size w w') : Stab base w' am al ad V := fun G hG W' hm => h G hG W' ((Mut.of_below hb).trans hm)
theorem Stab.zero (base : Nat) (w : World) : Stab base w none none none zeroV := fun _ _ W' _ => ⟨.inl rfl, .inl rfl, .inl rfl, by simp [zeroV], by simp [zeroV], by simp [zeroV], by simp [zeroV]⟩
theorem OwnP.allocT {w : World} {base : Nat} {v : Value} {xs : List Pid} (h : OwnP w base v xs) (o : Obj) : OwnP (w.alloc o) base v xs := h.ext ((Below.refl _ _).alloc (Nat.le_refl _) _)
theorem local_stab {wE : World} {base bq k3 k5 k8 n : Nat} {q3 q5 q8 : Option Addr} {l : List Pid} {i : Int} (hn : l.length = n) (hl : n ≤ 549755813888) (h3 : OwnP wE base (.slice q3 n k3) l) (h5 : OwnP wE base (.slice q5 n k5) l) (h8 : OwnP wE base (.slice q8 n k8) l)
    (hc : wE.cell? ⟨bq, 0, none⟩ = some (.slice q5 n k5)) (hbq : base ≤ bq) : Stab base wE q3 (some ⟨bq, 0, none⟩) q8 ⟨i, l, [l], l⟩ := fun G hG W' hm => by
  obtain ⟨a3, c3, e3, r3, -⟩ := (h3.mutT hm hG).row
  obtain ⟨a5, c5, e5, r5, -⟩ := (h5.mutT hm hG).row
  obtain ⟨a8, c8, e8, r8, -⟩ := (h8.mutT hm hG).row
  cases e3; cases e5; cases e8
  have hb : bq < wE.heap.size := World.block_lt_of_cell? _ _ hc
  have hc' := cell_mut hc hm (fun e => by have : bq < base := hG _ e; omega)
  refine ⟨r3, .inr ⟨bq, 0, rfl, by have := hm.size; omega, fun j hj => ?_⟩, r8, by simp only; omega, by simp, by simp only; omega, fun m hm2 => by
    have : m = l := by simpa using hm2
    subst this; omega⟩
  have : j = 0 := by simpa using hj
  subst this
  exact ⟨q5, k5, by simpa [hn] using hc', r5⟩
theorem leaf_z {V : View} {i nm nl nd : Nat} {am al ad : Option Addr} {cm cl cd : Nat} {x y : Int} {w : World} {A : Int} (h : Hid (leafIx V.ls (x, y) = A)) (hi : V.id = (i : Int)) (hnm : Hid (V.ms.length = nm)) (hnl : Hid (V.ls.length = nl)) (hnd : Hid (V.ds.length = nd)) (hV : ViewR w am al ad V) :
   Calls Try.prog 78 #[.agg #[.int .u64 i, .slice am nm cm, .slice al nl cl, .slice ad nd cd], .agg #[.int .u16 x, .int .u32 y]] w fun e w' => e = .returned (.int .i64 A) ∧ Below w.heap.size w w' := by
  have := leaf_any V am al ad cm cl cd x y w hV
  rw [h.out, hi, hnm.out, hnl.out, hnd.out] at this
  exact this
theorem refLeaf_z {V : View} {i nm nl nd : Nat} {am al ad : Option Addr} {cm cl cd : Nat} {x y : Int} {w : World} {A : Int} (h : Hid (leafIx V.ls (x, y) = A)) (hi : V.id = (i : Int)) (hnm : Hid (V.ms.length = nm)) (hnl : Hid (V.ls.length = nl)) (hnd : Hid (V.ds.length = nd)) (hV : ViewR w am al ad V) :
   Calls Try.prog 81 #[.agg #[.int .u64 i, .slice am nm cm, .slice al nl cl, .slice ad nd cd], .agg #[.int .u16 x, .int .u32 y]] w fun e w' => e = .returned (.int .i64 A) ∧ Below w.heap.size w w' := by
  have := refLeaf_any V am al ad cm cl cd x y w hV
  rw [h.out, hi, hnm.out, hnl.out, hnd.out] at this
  exact this
theorem check_z {V : View} {i nm nl nd : Nat} {am al ad : Option Addr} {cm cl cd : Nat} {w : World} {bm : Bool} {k : Int} (h : Hid (checkB V = bm)) (hk : errB bm = k) (hi : V.id = (i : Int)) (hnm : Hid (V.ms.length = nm)) (hnl : Hid (V.ls.length = nl)) (hnd : Hid (V.ds.length = nd)) (hV : ViewR w am al ad V) (hsum : lens V.ls ≤ 549755813888) :
   Calls Try.prog 22 #[.agg #[.int .u64 i, .slice am nm cm, .slice al nl cl, .slice ad nd cd]] w fun e w' => e = .returned (.int .i64 k) ∧ Below w.heap.size w w' := by
  have := check_is (cm := cm) (cl := cl) (cd := cd) h hk hV hsum
  rw [hi, hnm.out, hnl.out, hnd.out] at this
  exact this

set_option maxRecDepth 100000 in
set_option maxHeartbeats 6400000 in
theorem local_any {V L : View} {i nm nl nd : Nat} {am al ad : Option Addr} {cm cl cd : Nat} {x y : Int} {w : World} (hL : Hid (localV V (x, y) = L)) (hi : V.id = (i : Int)) (hnm : Hid (V.ms.length = nm)) (hnl : Hid (V.ls.length = nl)) (hnd : Hid (V.ds.length = nd)) (hV : ViewR w am al ad V) (hsum : lens V.ls ≤ 549755813888) (hle : ∀ l ∈ V.ls, l.length ≤ 549755813888) :
   Calls Try.prog 19 #[.agg #[.int .u64 i, .slice am nm cm, .slice al nl cl, .slice ad nd cd], .agg #[.int .u16 x, .int .u32 y]] w fun e w' => ∃ (qm ql qd : Option Addr) (km kl kd : Nat), e = .returned (.agg #[.int .u64 L.id, .slice qm L.ms.length km, .slice ql L.ls.length kl, .slice qd L.ds.length kd]) ∧ Stab (w.heap.size + 3) w' qm ql qd L ∧ Below w.heap.size w w' := by
  obtain ⟨W3, hW3⟩ : ∃ W3, (((w.alloc (.cells #[.int .u64 i, .slice am nm cm, .slice al nl cl, .slice ad nd cd] 33)).alloc (.cells #[.int .u16 x, .int .u32 y] 26)).alloc (.cells #[.int .u64 0, .slice none 0 0, .slice none 0 0, .slice none 0 0] 33)) = W3 := ⟨_, rfl⟩
  have hB3 : Below w.heap.size w W3 := by rw [← hW3]; exact (((Below.refl _ _).alloc (Nat.le_refl _) _).alloc (by simp) _).alloc (by simp; omega) _
  have hz3 : W3.heap.size = w.heap.size + 1 + 1 + 1 := by rw [← hW3]; simp
  have hv : BoxV W3 w.heap.size (.int .u64 i) (.slice am nm cm) (.slice al nl cl) (.slice ad nd cd) := by
    rw [← hW3]; exact ((BoxV.made w _ _ _ _ _).ext ((Below.refl _ _).alloc (Nat.le_refl _) _)).ext ((Below.refl _ _).alloc (Nat.le_refl _) _)
  have p0 : W3.cell? ⟨w.heap.size + 1, 0, none⟩ = some (.int .u16 x) := by
    have h : ((w.alloc (.cells #[.int .u64 i, .slice am nm cm, .slice al nl cl, .slice ad nd cd] 33)).alloc (.cells #[.int .u16 x, .int .u32 y] 26)).cell? ⟨w.heap.size + 1, 0, none⟩ = some (.int .u16 x) := by simp
    rw [← hW3]; exact cell_toB h ((Below.refl _ _).alloc (Nat.le_refl _) _)
  have p1 : W3.cell? ⟨w.heap.size + 1, 1, none⟩ = some (.int .u32 y) := by
    have h : ((w.alloc (.cells #[.int .u64 i, .slice am nm cm, .slice al nl cl, .slice ad nd cd] 33)).alloc (.cells #[.int .u16 x, .int .u32 y] 26)).cell? ⟨w.heap.size + 1, 1, none⟩ = some (.int .u32 y) := by simp
    rw [← hW3]; exact cell_toB h ((Below.refl _ _).alloc (Nat.le_refl _) _)
  have hr : BoxV W3 (w.heap.size + 1 + 1) (.int .u64 0) (.slice none 0 0) (.slice none 0 0) (.slice none 0 0) := by
    rw [← hW3]
    have := BoxV.made ((w.alloc (.cells #[.int .u64 i, .slice am nm cm, .slice al nl cl, .slice ad nd cd] 33)).alloc (.cells #[.int .u16 x, .int .u32 y] 26)) 33 (.int .u64 0) (.slice none 0 0) (.slice none 0 0) (.slice none 0 0)
    simpa using this
  have hV3 := hV.ext hB3
  obtain ⟨A, hA⟩ : ∃ A, leafIx V.ls (x, y) = A := ⟨_, rfl⟩
  have LF := hid (leaf_z (cm := cm) (cl := cl) (cd := cd) (hid hA) hi hnm hnl hnd hV3)
  obtain ⟨ck, hck⟩ : ∃ b, checkB V = b := ⟨_, rfl⟩
  obtain ⟨er, her⟩ : ∃ k, errB ck = k := ⟨_, rfl⟩
  have CK : Hid (∀ W, Below W3.heap.size W3 W → Calls Try.prog 22 #[.agg #[.int .u64 i, .slice am nm cm, .slice al nl cl, .slice ad nd cd]] W fun e w' => e = .returned (.int .i64 er) ∧ Below W3.heap.size W3 w') := hid fun W h => relB h (check_z (cm := cm) (cl := cl) (cd := cd) (hid hck) her hi hnm hnl hnd (hV3.ext h) hsum)
  have XV : Hid (∀ W, Below W3.heap.size W3 W → BoxV W w.heap.size (.int .u64 i) (.slice am nm cm) (.slice al nl cl) (.slice ad nd cd)) := hid fun W h => hv.ext h
  have XR : Hid (∀ W, Below W3.heap.size W3 W → BoxV W (w.heap.size + 1 + 1) (.int .u64 0) (.slice none 0 0) (.slice none 0 0) (.slice none 0 0)) := hid fun W h => hr.ext h
  obtain ⟨a0, a1, a2, a3, -, -, -, -⟩ := id hv
  have HB3 := hid hB3
  have HZ3 := hid hz3
  have HV3 := hid hV3
  have HLE := hid hle
  rcases localV_kinds V (x, y) with ⟨eL, hno⟩ | ⟨k, l, hc, hk, hl, hp, eL⟩
  · have HL := hid (hL.out.symm.trans eL)
    have HNO : Hid ((er != 0) = true ∨ (er = 0 ∧ decide (A < 0) = true)) := hid (by
      rcases hno with h | h
      · left; rw [← her, ← hck, h]; rfl
      · rw [hA] at h
        cases ck
        · left; rw [← her]; rfl
        · right; exact ⟨by rw [← her]; rfl, by simpa using h⟩)
    clear eL hno hL hck her hA hv hr hB3 hz3 hV3 hV hle hsum hi
    go_enter Try.func19, Try.ntmps19
    go_wp2_with fail
    (with_reducible refine LF.out.mono ?_)
    rintro e w4 ⟨rfl, hb4⟩
    clear a0 a1 a2 a3 p0 p1 LF
    obtain ⟨a0, a1, a2, a3, -, -, -, -⟩ := XV.out _ hb4
    go_wp2_with fail
    (with_reducible refine (CK.out _ hb4).mono ?_)
    rintro e w5 ⟨rfl, hb5⟩
    clear a0 a1 a2 a3 hW3
    obtain ⟨d0, d1, d2, d3, g0, g1, g2, g3⟩ := XR.out _ hb5
    have DD := hid ((XR.out _ hb5).put (.int .u64 0) (.slice none 0 0) (.slice none 0 0) (.slice none 0 0))
    have hz := HZ3.out
    rcases HNO.out with t1 | ⟨rfl, t1⟩
    · go_wp2_with fail
      obtain ⟨q0, q1, q2, q3, -, -, -, -⟩ := DD.out
      exact bodyPost_ret (v := .agg #[.int .u64 0, .slice none 0 0, .slice none 0 0, .slice none 0 0]) (by simp [results, Try.results19, go_sem, q0, q1, q2, q3]) rfl
        ⟨none, none, none, 0, 0, 0, by rw [HL.out]; rfl, by rw [HL.out]; exact Stab.zero _ _, below_put4 (HB3.out.trans (hb5.mono HB3.out.size)) (by omega)⟩
    · have t2 : ((0 : Int) != 0) = false := by decide
      go_wp2_with fail
      obtain ⟨q0, q1, q2, q3, -, -, -, -⟩ := DD.out
      exact bodyPost_ret (v := .agg #[.int .u64 0, .slice none 0 0, .slice none 0 0, .slice none 0 0]) (by simp [results, Try.results19, go_sem, q0, q1, q2, q3]) rfl
        ⟨none, none, none, 0, 0, 0, by rw [HL.out]; rfl, by rw [HL.out]; exact Stab.zero _ _, below_put4 (HB3.out.trans (hb5.mono HB3.out.size)) (by omega)⟩
  · have HL := hid (hL.out.symm.trans eL)
    have hkA : A = (k : Int) := hA.symm.trans hk
    subst hkA
    have hck2 : ck = true := hck.symm.trans hc
    subst hck2
    have her2 : er = 0 := her.symm
    subst her2
    have t1 : decide ((k : Int) < 0) = false := by simp
    have hkl : k < V.ls.length := (List.getElem?_eq_some_iff.1 hl).1
    have hkn : k < nl := by rw [← hnl.out]; exact hkl
    obtain ⟨b, off, ai, ci, l', hal, hx, d1, d2⟩ := hV3.ls.at (Below.refl _ _) rfl hkl
    have hll : l' = l := by rw [hx]; exact (List.getElem?_eq_some_iff.1 hl).2
    subst hll
    subst hal
    have hln : l'.length ≤ 549755813888 := hle l' (List.mem_of_getElem? hl)
    obtain ⟨n, hn⟩ : ∃ n, l'.length = n := ⟨_, rfl⟩
    rw [hn] at d1 hln
    have HN := hid hn
    have HD1 : Hid (∀ W, Below W3.heap.size W3 W → W.cell? ⟨b, off + k, none⟩ = some (.slice ai n ci)) := hid fun W h => cell_toB d1 h
    have HD2 := hid d2
    have HI := hid hi
    clear eL hL hck her hA hv hr hB3 hz3 hV3 hV hle hsum hi hc hk hl hp hkl hx hn d1 d2
    go_enter Try.func19, Try.ntmps19
    go_wp2_with fail
    (with_reducible refine LF.out.mono ?_)
    rintro e w4 ⟨rfl, hb4⟩
    clear a0 a1 a2 a3 p0 p1 LF
    obtain ⟨a0, a1, a2, a3, -, -, -, -⟩ := XV.out _ hb4
    go_wp2_with fail
    (with_reducible refine (CK.out _ hb4).mono ?_)
    rintro e w5 ⟨rfl, hb5⟩
    clear a0 a1 a2 a3 hW3
    obtain ⟨a0, a1, a2, a3, -, -, -, -⟩ := XV.out _ hb5
    have d1 := HD1.out _ hb5
    go_wp2_with fail
    clear a0 a1 a2 a3 d1
    have HS : Hid (∀ W, Below w5.heap.size w5 W → W.cell? ⟨w.heap.size, 0, none⟩ = some (.int .u64 i)) := hid fun W h => cell_toB (XV.out _ hb5).c0 h
    have C1 : Hid (∀ W, Below w5.heap.size w5 W → Calls Try.prog 80 #[.slice ai n ci] W fun e w' => ∃ v, e = .returned v ∧ OwnP w' W.heap.size v l' ∧ Below W.heap.size W w') := hid fun W h => clone_is HN.out hln ((HD2.out.ext hb5).ext h)
    have H0 : Below w5.heap.size w5 w5.drew := (Below.refl _ _).drew
    have HB5 := hid hb5
    have hz := HZ3.out
    have hz5 := hb5.size
    clear hb5 hb4 CK

    refine wp_region_held_drew (S := fun W => W.cell? ⟨w.heap.size, 0, none⟩ = some (.int .u64 i)) (by kernel_rfl) (HS.out _ H0) (fun hHeld => ?_)
    refine wpAnyH_take (i := 0) (oi := _) (v := .pointer (some ⟨w.heap.size, 0, none⟩)) rfl (by kernel_rfl) (by kernel_rfl) (by kernel_rfl) (fun _ _ _ h => h) (Or.inl ⟨by rfl, ?_⟩) (by assumption) ?_
    · intro W hSw
      try dsimp only at hSw
      go_simp
    try simp only [Act.put, List.getElem_toArray, List.getElem_cons_succ, List.getElem_cons_zero, List.setIfInBounds_toArray, List.set_cons_zero, List.set_cons_succ]
    refine wpAnyH_take (i := 1) (oi := _) (v := .int .u64 i) rfl (by kernel_rfl) (by kernel_rfl) (by kernel_rfl) (fun _ _ _ h => h) (Or.inl ⟨by rfl, ?_⟩) (by assumption) ?_
    · intro W hSw
      try dsimp only at hSw
      go_simp
    try simp only [Act.put, List.getElem_toArray, List.getElem_cons_succ, List.getElem_cons_zero, List.setIfInBounds_toArray, List.set_cons_zero, List.set_cons_succ]
    refine wpAnyH_take (i := 2) (oi := _) (v := .slice ai n ci) rfl (by kernel_rfl) (by kernel_rfl) (by kernel_rfl) (fun _ _ _ h => h) (Or.inl ⟨by rfl, ?_⟩) (by assumption) ?_
    · intro W hSw
      try dsimp only at hSw
      go_simp
    try simp only [Act.put, List.getElem_toArray, List.getElem_cons_succ, List.getElem_cons_zero, List.setIfInBounds_toArray, List.set_cons_zero, List.set_cons_succ]
    refine wpAnyH_take (i := 4) (oi := _) (v := .slice ai n ci) rfl (by kernel_rfl) (by kernel_rfl) (by kernel_rfl) (fun _ _ _ h => h) (Or.inl ⟨by rfl, ?_⟩) (by assumption) ?_
    · intro W hSw
      try dsimp only at hSw
      go_simp
    try simp only [Act.put, List.getElem_toArray, List.getElem_cons_succ, List.getElem_cons_zero, List.setIfInBounds_toArray, List.set_cons_zero, List.set_cons_succ]
    refine wpAnyH_take (i := 7) (oi := _) (v := .slice ai n ci) rfl (by kernel_rfl) (by kernel_rfl) (by kernel_rfl) (fun _ _ _ h => h) (Or.inl ⟨by rfl, ?_⟩) (by assumption) ?_
    · intro W hSw
      try dsimp only at hSw
      go_simp
    try simp only [Act.put, List.getElem_toArray, List.getElem_cons_succ, List.getElem_cons_zero, List.setIfInBounds_toArray, List.set_cons_zero, List.set_cons_succ]
    refine wpAnyH_ready (rs := [3]) (by kernel_rfl) (by simp) ?_
    refine AllReadyH.cons (o := _) rfl (fun K hK => ?_) AllReadyH.nil
    go_simp
    refine (C1.out _ H0).mono ?_
    rintro e wa ⟨va, rfl, hoa, hba⟩
    obtain ⟨qa, ka, ea, -, -⟩ := hoa.row
    rw [HN.out] at ea
    subst ea
    have ha := H0.trans (hba.mono H0.size)
    refine hK.out _ _ (HS.out _ (ha)) (fun hHeld => ?_)
    clear hK K
    try simp only [Act.put, List.getElem_toArray, List.getElem_cons_succ, List.getElem_cons_zero, List.setIfInBounds_toArray, List.set_cons_zero, List.set_cons_succ]
    refine wpAnyH_ready (rs := [5]) (by kernel_rfl) (by simp) ?_
    refine AllReadyH.cons (o := _) rfl (fun K hK => ?_) AllReadyH.nil
    go_simp
    refine (C1.out _ ha).mono ?_
    rintro e wb ⟨vb, rfl, hob, hbb⟩
    obtain ⟨qb, kb, eb, -, -⟩ := hob.row
    rw [HN.out] at eb
    subst eb
    have hb := ha.trans (hbb.mono ha.size)
    refine hK.out _ _ (HS.out _ (hb)) (fun hHeld => ?_)
    clear hK K
    try simp only [Act.put, List.getElem_toArray, List.getElem_cons_succ, List.getElem_cons_zero, List.setIfInBounds_toArray, List.set_cons_zero, List.set_cons_succ]
    refine wpAnyH_ready (rs := [6, 8]) (by kernel_rfl) (by simp) ?_
    refine AllReadyH.cons (o := _) rfl (fun K hK => ?_) (AllReadyH.cons (o := _) rfl (fun K hK => ?_) AllReadyH.nil)
    · go_simp
      have hcq : (wb.alloc (.cells #[.slice qb n kb] 30)).cell? ⟨wb.heap.size, 0, none⟩ = some (.slice qb n kb) := by simp
      have hq := hb.alloc hb.size (.cells #[.slice qb n kb] 30)
      refine hK.out _ _ (HS.out _ (hq)) (fun hHeld => ?_)
      clear hK K
      try simp only [Act.put, List.getElem_toArray, List.getElem_cons_succ, List.getElem_cons_zero, List.setIfInBounds_toArray, List.set_cons_zero, List.set_cons_succ]
      refine wpAnyH_ready (rs := [8]) (by kernel_rfl) (by simp) ?_
      refine AllReadyH.cons (o := _) rfl (fun K hK => ?_) AllReadyH.nil
      go_simp
      refine (C1.out _ hq).mono ?_
      rintro e wc ⟨vc, rfl, hoc, hbc⟩
      obtain ⟨qc, kc, ec, -, -⟩ := hoc.row
      rw [HN.out] at ec
      subst ec
      have hc := hq.trans (hbc.mono hq.size)
      refine hK.out _ _ (HS.out _ (hc)) (fun hHeld => ?_)
      clear hK K
      try simp only [Act.put, List.getElem_toArray, List.getElem_cons_succ, List.getElem_cons_zero, List.setIfInBounds_toArray, List.set_cons_zero, List.set_cons_succ]
      have st := local_stab (i := V.id) HN.out hln ((OwnP.ext (OwnP.allocT (hoa.ext hbb) _) hbc).mono2 (b' := w.heap.size + 3) (by have := H0.size; omega)) ((OwnP.ext (OwnP.allocT hob _) hbc).mono2 (b' := w.heap.size + 3) (by have := ha.size; omega)) (hoc.mono2 (b' := w.heap.size + 3) (by have := hq.size; omega)) (cell_toB hcq hbc) (by have := hb.size; omega)
      have hbE := HB3.out.trans ((HB5.out.trans (hc.mono HB5.out.size)).mono HB3.out.size)
      have XE := hid ((XR.out _ HB5.out).ext hc)
      have zz := XE.out.put (.int .u64 i) (.slice qa n ka) (.slice (some ⟨wb.heap.size, 0, none⟩) 1 1) (.slice qc n kc)
      obtain ⟨d0, d1, d2, d3, g0, g1, g2, g3⟩ := id XE.out
      refine wpAnyH_take (i := 9) (oi := _) (v := .agg #[.int .u64 i, .slice qa n ka, .slice (some ⟨wb.heap.size, 0, none⟩) 1 1, .slice qc n kc]) rfl (by kernel_rfl) (by kernel_rfl) (by kernel_rfl) (fun _ _ _ h => h) (Or.inl ⟨by rfl, ?_⟩) (by assumption) ?_
      · intro W hSw
        try dsimp only at hSw
        go_simp
      try simp only [Act.put, List.getElem_toArray, List.getElem_cons_succ, List.getElem_cons_zero, List.setIfInBounds_toArray, List.set_cons_zero, List.set_cons_succ]
      refine wpAnyH_ready (rs := [10]) (by kernel_rfl) (by simp) ?_
      refine AllReadyH.cons (o := _) rfl (fun K hK => ?_) AllReadyH.nil
      go_simp
      refine hK.out _ _ ((off_blk (by omega)).trans ((off_blk (by omega)).trans ((off_blk (by omega)).trans ((off_blk (by omega)).trans (HS.out _ hc))))) (fun hHeld => ?_)
      clear hK K
      try simp only [Act.put, List.getElem_toArray, List.getElem_cons_succ, List.getElem_cons_zero, List.setIfInBounds_toArray, List.set_cons_zero, List.set_cons_succ]
      refine wpAnyH_done (by kernel_rfl) ?_ _
      go_wp2
      obtain ⟨z0, z1, z2, z3, -, -, -, -⟩ := zz
      exact bodyPost_ret (v := .agg #[.int .u64 i, .slice qa n ka, .slice (some ⟨wb.heap.size, 0, none⟩) 1 1, .slice qc n kc]) (by simp [results, Try.results19, go_sem, z0, z1, z2, z3]) rfl
        ⟨qa, some ⟨wb.heap.size, 0, none⟩, qc, ka, 1, kc, by rw [HL.out, HN.out, HI.out]; rfl, by rw [HL.out]; exact fun G hG W' hm => st (fun k => G k ∨ k = w.heap.size + 1 + 1) (fun k e => by rcases e with e | e; exact hG k e; omega) W' (((mutV _ (w.heap.size + 1 + 1) _ _ _ _).mono (fun k _ e => .inr e)).trans (hm.mono (fun k _ e => .inl e))), below_put4 hbE (by omega)⟩
    · go_simp
      refine (C1.out _ hb).mono ?_
      rintro e wc ⟨vc, rfl, hoc, hbc⟩
      obtain ⟨qc, kc, ec, -, -⟩ := hoc.row
      rw [HN.out] at ec
      subst ec
      have hc := hb.trans (hbc.mono hb.size)
      refine hK.out _ _ (HS.out _ (hc)) (fun hHeld => ?_)
      clear hK K
      try simp only [Act.put, List.getElem_toArray, List.getElem_cons_succ, List.getElem_cons_zero, List.setIfInBounds_toArray, List.set_cons_zero, List.set_cons_succ]
      refine wpAnyH_ready (rs := [6]) (by kernel_rfl) (by simp) ?_
      refine AllReadyH.cons (o := _) rfl (fun K hK => ?_) AllReadyH.nil
      go_simp
      have hcq : (wc.alloc (.cells #[.slice qb n kb] 30)).cell? ⟨wc.heap.size, 0, none⟩ = some (.slice qb n kb) := by simp
      have hq := hc.alloc hc.size (.cells #[.slice qb n kb] 30)
      refine hK.out _ _ (HS.out _ (hq)) (fun hHeld => ?_)
      clear hK K
      try simp only [Act.put, List.getElem_toArray, List.getElem_cons_succ, List.getElem_cons_zero, List.setIfInBounds_toArray, List.set_cons_zero, List.set_cons_succ]
      have st := local_stab (i := V.id) HN.out hln ((OwnP.allocT ((hoa.ext hbb).ext hbc) _).mono2 (b' := w.heap.size + 3) (by have := H0.size; omega)) ((OwnP.allocT (hob.ext hbc) _).mono2 (b' := w.heap.size + 3) (by have := ha.size; omega)) ((OwnP.allocT hoc _).mono2 (b' := w.heap.size + 3) (by have := hb.size; omega)) (hcq) (by have := hc.size; omega)
      have hbE := HB3.out.trans ((HB5.out.trans (hq.mono HB5.out.size)).mono HB3.out.size)
      have XE := hid ((XR.out _ HB5.out).ext hq)
      have zz := XE.out.put (.int .u64 i) (.slice qa n ka) (.slice (some ⟨wc.heap.size, 0, none⟩) 1 1) (.slice qc n kc)
      obtain ⟨d0, d1, d2, d3, g0, g1, g2, g3⟩ := id XE.out
      refine wpAnyH_take (i := 9) (oi := _) (v := .agg #[.int .u64 i, .slice qa n ka, .slice (some ⟨wc.heap.size, 0, none⟩) 1 1, .slice qc n kc]) rfl (by kernel_rfl) (by kernel_rfl) (by kernel_rfl) (fun _ _ _ h => h) (Or.inl ⟨by rfl, ?_⟩) (by assumption) ?_
      · intro W hSw
        try dsimp only at hSw
        go_simp
      try simp only [Act.put, List.getElem_toArray, List.getElem_cons_succ, List.getElem_cons_zero, List.setIfInBounds_toArray, List.set_cons_zero, List.set_cons_succ]
      refine wpAnyH_ready (rs := [10]) (by kernel_rfl) (by simp) ?_
      refine AllReadyH.cons (o := _) rfl (fun K hK => ?_) AllReadyH.nil
      go_simp
      refine hK.out _ _ ((off_blk (by omega)).trans ((off_blk (by omega)).trans ((off_blk (by omega)).trans ((off_blk (by omega)).trans (HS.out _ hq))))) (fun hHeld => ?_)
      clear hK K
      try simp only [Act.put, List.getElem_toArray, List.getElem_cons_succ, List.getElem_cons_zero, List.setIfInBounds_toArray, List.set_cons_zero, List.set_cons_succ]
      refine wpAnyH_done (by kernel_rfl) ?_ _
      go_wp2
      obtain ⟨z0, z1, z2, z3, -, -, -, -⟩ := zz
      exact bodyPost_ret (v := .agg #[.int .u64 i, .slice qa n ka, .slice (some ⟨wc.heap.size, 0, none⟩) 1 1, .slice qc n kc]) (by simp [results, Try.results19, go_sem, z0, z1, z2, z3]) rfl
        ⟨qa, some ⟨wc.heap.size, 0, none⟩, qc, ka, 1, kc, by rw [HL.out, HN.out, HI.out]; rfl, by rw [HL.out]; exact fun G hG W' hm => st (fun k => G k ∨ k = w.heap.size + 1 + 1) (fun k e => by rcases e with e | e; exact hG k e; omega) W' (((mutV _ (w.heap.size + 1 + 1) _ _ _ _).mono (fun k _ e => .inr e)).trans (hm.mono (fun k _ e => .inl e))), below_put4 hbE (by omega)⟩
end Go.Proofs.Ytbpfhclcjedkcaa

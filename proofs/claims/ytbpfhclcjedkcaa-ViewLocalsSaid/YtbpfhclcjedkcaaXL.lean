import Derived.Test.YtbpfhclcjedkcaaX26
namespace Go.Proofs.Ytbpfhclcjedkcaa
open Go.RowKit

/-! ### what a view that may be is bounded by; great of a command -/
theorem laid_of_check {V : View} (hw : WfPids V.ms) (h : checkB V = true) : Laid V := by
  unfold checkB at h
  simp only [Bool.and_eq_true, decide_eq_true_eq, chkFrom_iff, chkEnd, ris_same, List.nil_append, Nat.zero_add] at h
  obtain ⟨a, b, c, d, e, f, g, h, i⟩ := h
  have hl := lens_flatten V.ls
  unfold membersB at c
  rw [memFrom_iff] at c
  have hls := lens_ge (fun l hl => (d l hl).1)
  have hc := c.1.2
  refine ⟨by omega, b, hw, hc, by omega, fun l hl => ⟨risR_mem (d l hl).2, ?_⟩, ⟨risR_mem i, ?_⟩⟩
  · have := nodup_len (risR_nodup (d l hl).2) (risR_mem (d l hl).2); omega
  · have := nodup_len (risR_nodup i) (risR_mem i); omega
theorem lens_leC {n : Nat} : ∀ {ls : List (List Pid)}, (∀ l ∈ ls, l.length ≤ n) → lens ls ≤ ls.length * n
  | [], _ => by simp [lens]
  | l :: ls, h => by
    have h1 := h l (by simp)
    have h2 := lens_leC (ls := ls) (fun x hx => h x (by simp [hx]))
    simp only [lens, List.map_cons, List.sum_cons, List.length_cons] at *
    rw [Nat.add_mul]; omega
theorem great_noC {V : View} (h : greatB V = false) : V.ms.length ≤ 40 ∧ V.ls.length ≤ 40 ∧ V.ds.length ≤ 40 ∧ (∀ l ∈ V.ls, l.length ≤ 40) ∧ lens V.ls ≤ 1600 := by
  unfold greatB at h
  simp only [Bool.or_eq_false_iff, decide_eq_false_iff_not, List.any_eq_false] at h
  obtain ⟨a, b, c, d⟩ := h
  have d' : ∀ l ∈ V.ls, l.length ≤ 40 := fun l hl => by have := d l hl; simp at this; omega
  have := lens_leC d'
  exact ⟨by omega, by omega, by omega, d', by omega⟩
def greatC (A : CmdD) : Bool := decide (400 < A.data.length) || greatB A.v
set_option maxRecDepth 100000 in
set_option maxHeartbeats 1600000 in
theorem cmdGreat_any {A : CmdD} {da am al ad : Option Addr} {dc cm cl cd : Nat} {w : World} (hV : ViewR w am al ad A.v) :
   Calls Try.prog 89 #[.agg (cmdL da am al ad dc cm cl cd A)] w fun e w' => e = .returned (.bool (greatC A)) ∧ Below w.heap.size w w' := by
  have xA : CmdBox (w.alloc (.cells (cmdL da am al ad dc cm cl cd A) 44)) w.heap.size A da am al ad dc cm cl cd := CmdBox.made (c := A) w
  have hB1 : Below w.heap.size w (w.alloc (.cells (cmdL da am al ad dc cm cl cd A) 44)) := (Below.refl _ _).alloc (Nat.le_refl _) _
  have hl : ∀ (x : CmdD) (da am al ad : Option Addr) (dc cm cl cd : Nat), cmdL da am al ad dc cm cl cd x = #[.int .i64 x.kind, .int .u16 x.fr.1, .int .u32 x.fr.2, .int .u64 x.num, .int .u64 x.vw, .slice da x.data.length dc, .int .u64 x.v.id, .slice am x.v.ms.length cm, .slice al x.v.ls.length cl, .slice ad x.v.ds.length cd] := fun _ _ _ _ _ _ _ _ _ => rfl
  simp only [hl] at *
  have hV1 := hV.ext hB1
  obtain ⟨a0, a1, a2, a3, a4, a5, a6, a7, a8, a9⟩ := id xA
  obtain ⟨r, hr⟩ : ∃ r, greatB A.v = r := ⟨_, rfl⟩
  have HR := hid hr
  by_cases h : 400 < A.data.length
  · have hd : decide ((A.data.length : Int) > 400) = true := by simp; omega
    have hd' : decide ((400 : Int) < (A.data.length : Int)) = true := by simp; omega
    have HC : Hid (greatC A = true) := hid (by unfold greatC; rw [decide_eq_true h]; rfl)
    clear h
    go_enter Try.func89, Try.ntmps89
    go_wp2
    go_ret
    exact ⟨by rw [HC.out]; rfl, hB1⟩
  · have hd : decide ((A.data.length : Int) > 400) = false := by simp; omega
    have hd' : decide ((400 : Int) < (A.data.length : Int)) = false := by simp; omega
    have HC : Hid (greatC A = r) := hid (by unfold greatC; rw [decide_eq_false h, hr]; rfl)
    clear h hr
    go_enter Try.func89, Try.ntmps89
    go_wp2_with (go_at_call 18; (with_reducible refine (great_is HR hV1).mono ?_); rintro e w3 ⟨rfl, hb3⟩)
    go_ret
    exact ⟨by rw [HC.out]; rfl, hB1.trans (hb3.mono hB1.size)⟩
theorem cmdGreat_is {A : CmdD} {da am al ad : Option Addr} {dc cm cl cd : Nat} {w : World} {r : Bool} (h : Hid (greatC A = r)) (hV : ViewR w am al ad A.v) :
   Calls Try.prog 89 #[.agg (cmdL da am al ad dc cm cl cd A)] w fun e w' => e = .returned (.bool r) ∧ Below w.heap.size w w' := by
  have := cmdGreat_any (da := da) (dc := dc) (cm := cm) (cl := cl) (cd := cd) hV
  rw [h.out] at this; exact this
theorem greatC_no {A : CmdD} (h : greatC A = false) : A.data.length ≤ 400 ∧ lens A.v.ls ≤ 1600 := by
  unfold greatC at h
  simp only [Bool.or_eq_false_iff, decide_eq_false_iff_not] at h
  exact ⟨by omega, (great_noC h.2).2.2.2.2⟩
theorem viewF_small {V : View} (h : Laid V) : (viewF V).length ≤ 290000 := by
  have h1 := short_len10 (n := V.id.toNat) (by have := h.id1; omega)
  have h2 := short_len10 (n := V.ms.length) (by have := h.lm; omega)
  have h3 := flat_pidF_len h.wf
  have h4 := short_len10 (n := V.ls.length) (by have := h.ll; omega)
  have h5 := flat_places_len (ms := V.ms) (by have := h.lm; omega) V.ls (fun l hl => by have := (h.le l hl).2; omega)
  have h6 := placesF_len (ms := V.ms) (l := V.ds) (by have := h.lm; omega) (by have := h.ld.2; omega)
  have h7 := h.lm
  have h8 := h.ll
  unfold viewF pidsF
  simp only [List.length_append]
  omega
theorem short_byteA : ∀ (n : Nat), ∀ b ∈ short n, b < 256 := by
  intro n
  induction n using Nat.strongRecOn with
  | _ n ih =>
    intro b hb
    by_cases h : n < 128
    · rw [short_lt h] at hb
      have : b = n := by simpa using hb
      omega
    · rw [short_ge h] at hb
      rcases List.mem_cons.1 hb with h1 | h1
      · omega
      · exact ih (n / 128) (by omega) b h1
theorem pidF_byte {p : Pid} : ∀ b ∈ pidF p, b < 256 := by
  unfold pidF
  intro b hb
  rcases List.mem_append.1 hb with h | h
  · exact short_byteA _ b h
  · exact short_byteA _ b h
theorem placesF_byte {ms l : List Pid} : ∀ b ∈ placesF ms l, b < 256 := by
  unfold placesF
  intro b hb
  rcases List.mem_append.1 hb with h | h
  · exact short_byteA _ b h
  · obtain ⟨p, -, h⟩ := List.mem_flatMap.1 h
    exact short_byteA _ b h
theorem pidsF_byte {l : List Pid} : ∀ b ∈ pidsF l, b < 256 := by
  unfold pidsF
  intro b hb
  rcases List.mem_append.1 hb with h | h
  · exact short_byteA _ b h
  · obtain ⟨p, -, h⟩ := List.mem_flatMap.1 h
    exact pidF_byte b h
theorem viewF_byte {V : View} : ∀ b ∈ viewF V, b < 256 := by
  unfold viewF
  intro b hb
  simp only [List.mem_append] at hb
  rcases hb with h | h | h | h | h
  · exact short_byteA _ b h
  · exact pidsF_byte b h
  · exact short_byteA _ b h
  · obtain ⟨p, -, h⟩ := List.mem_flatMap.1 h
    exact placesF_byte b h
  · exact placesF_byte b h
end Go.Proofs.Ytbpfhclcjedkcaa

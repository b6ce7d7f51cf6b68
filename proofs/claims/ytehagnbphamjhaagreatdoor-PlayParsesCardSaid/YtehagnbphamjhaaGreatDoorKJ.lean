/- Parts of the proof: KJ. -/
import Derived.Test.YtehagnbphamjhaaGreatDoorGPlayBack19
namespace Go.Proofs.YtehagnbphamjhaaGreatDoor
open Go.RowKit
/-! ### hub: Out, the walk -/
/-- append of an element at an operation of a region that draws -/
theorem step_appendE {w : World} {o : Oper} {a : Go.Act} {K : Go.Act → World → Prop} {Q : Exit → Go.Act → World → Prop} {y : Nat → Option Bool} {s x : Operand} {base k bytes : Nat} {T E : TypeId} {i0 : TypeInfo} {z v : Value} {xs : List (List Value)} {el : List Value} {b c : Nat} (hw : Region.wanted o y = true)
    (ht : Tryz.prog.underlying T = some (.slice E)) (hi : Tryz.prog.info? E = some i0) (hz0 : i0.zero = some z) (hz1 : i0.size = k) (hz2 : i0.bytes = bytes) (hzs : z.cells.size = k) (hk : 0 < k) (hbt : bytes ≤ 1000)
    (hown : OwnK w base E k v xs) (hel : el.length = k) (h1 : ∀ u ∈ el, u.oneCell' = true) (hc : ∀ j u, el[j]? = some u → w.cell? ⟨b, j, none⟩ = some u) (hl : xs.length + 1 ≤ 1000000) (hbase : base ≤ w.heap.size)
    (ho : o.op = .call { callee := .builtin .append, args := #[s, x], argTypes := #[T, T] }) (hs : a.eval s = v) (hx : a.eval x = .slice (some ⟨b, 0, none⟩) 1 c)
    (h : ∀ v' w', OwnK w' base E k v' (xs ++ [el]) → Mut (fun g => v.ownBlock = some g) w w' → (∀ g, v'.ownBlock = some g → v.ownBlock = some g ∨ w.heap.size ≤ g) → K (a.put o.dst v') w') : if Region.wanted o y = true then Oper.wp Tryz.prog o a w K Q else K (a.put o.dst undef) w := by
  rw [if_pos hw]
  obtain ⟨v', w', hr, h2, h3, h4, -⟩ := hown.append (c := c) T o.type i0 z bytes ht hi hz0 hz1 hz2 hzs hk hel h1 hc hl hbt hbase
  exact Lib.wp_append_run w s x T T ho _ _ hs hx v' w' hr (h v' w' h2 h3 h4)
theorem ItemAt.none (w : World) (N : Nat → Prop) : ItemAt w N (.slice none 0 0) [] := ⟨_, _, rfl, .inl rfl, fun x h => (by cases h), fun b off e => (by cases e)⟩
end Go.Proofs.YtehagnbphamjhaaGreatDoor


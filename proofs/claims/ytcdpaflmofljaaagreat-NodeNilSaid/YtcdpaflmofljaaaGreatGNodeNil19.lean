import Derived.Test.YtcdpaflmofljaaaGreatGNodeNil18
/- Parts of the proof of NodeNil: NF. -/
namespace Go.Proofs.YtcdpaflmofljaaaGreat
open Go.RowKit
set_option maxRecDepth 100000 in
set_option maxHeartbeats 6400000 in
theorem zdW (x y l m t:Int) (w:World) :
    Calls Tryz.prog 28 #[.agg #[.int .u16 x,.int .u32 y],.agg #[.int .i64 l,.int .i64 m,.int .i64 t]] w λe w'=>∃nb h r wb wr sb sr m1 m2,e=.returned (.pointer (some ⟨nb,0,none⟩))∧zdn w w' x y l m t nb h r wb wr sb sr m1 m2:=by
  have hmm:=@run_makeMap Tryz.prog
  obtain ⟨W1,hW1⟩:∃W1,(w.alloc (.cells #[.int .u16 x,.int .u32 y] 25)).alloc (.cells #[.int .i64 l,.int .i64 m,.int .i64 t] 28)=W1:=⟨_,rfl⟩
  have hb1:Below w.heap.size w W1:=by rw [←hW1];exact (bra).alloc (by simp) _
  have k0:W1.cell? ⟨w.heap.size,0,none⟩=some (.int .u16 x):=by rw [←hW1];simp
  have k1:W1.cell? ⟨w.heap.size,1,none⟩=some (.int .u32 y):=by rw [←hW1];simp
  have c0:W1.cell? ⟨w.heap.size+1,0,none⟩=some (.int .i64 l):=by rw [←hW1];simp
  have c1:W1.cell? ⟨w.heap.size+1,1,none⟩=some (.int .i64 m):=by rw [←hW1];simp
  have c2:W1.cell? ⟨w.heap.size+1,2,none⟩=some (.int .i64 t):=by rw [←hW1];simp
  have HS:Hid (∀W,Below W1.heap.size W1 W→Below W1.heap.size W1 W∧W.cell? ⟨w.heap.size,0,none⟩=some (.int .u16 x)∧W.cell? ⟨w.heap.size,1,none⟩=some (.int .u32 y)∧W.cell? ⟨w.heap.size+1,0,none⟩=some (.int .i64 l)∧W.cell? ⟨w.heap.size+1,1,none⟩=some (.int .i64 m)∧W.cell? ⟨w.heap.size+1,2,none⟩=some (.int .i64 t)):=hid λW h=>⟨h,Zk k0 h,Zk k1 h,Zk c0 h,Zk c1 h,Zk c2 h⟩
  have CH:Hid (∀W,Below W1.heap.size W1 W→Calls Tryz.prog 67 #[.agg #[.int .u16 x,.int .u32 y]] W λe w'=>∃h r,e=.returned (.pointer (some ⟨h,0,none⟩))∧Below W1.heap.size W1 w'∧Hid ((W.heap.size≤h∧W.heap.size≤r∧h<w'.heap.size∧r<w'.heap.size∧h≠r)∧Yf w' (fpH h r []) h r (x,y) [])∧Below W.heap.size W w'):=hid λW h=>(hnew_any (x,y) W (λ_=>False)).mono λe w' ⟨s,r,h1,h5,h4,h2,h3⟩=>⟨s,r,h1,h.trans (h5.mono h.size),hid ⟨⟨h2,h3,World.block_lt_of_cell? _ _ h4.c0,h4.map.lt,h4.hr⟩,h4.less (λ_ e=>e) λ_ e=>.inl (.inr e)⟩,h5⟩
  have CW:Hid (∀W,Below W1.heap.size W1 W→Calls Tryz.prog 68 #[.int .i64 t] W λe w'=>∃s r,e=.returned (.pointer (some ⟨s,0,none⟩))∧Below W1.heap.size W1 w'∧Hid ((W.heap.size≤s∧W.heap.size≤r∧s<w'.heap.size∧r<w'.heap.size∧s≠r)∧Zq w' s r (max t 1) [])∧Below W.heap.size W w'):=hid λW h=>(Ew t W).mono λe w' ⟨s,r,h1,h2,h3,h4,h5⟩=>⟨s,r,h1,h.trans (h5.mono h.size),hid ⟨⟨h2,h3,h4.lt,h4.map.lt,h4.map.ne_cell h4.c0⟩,h4⟩,h5⟩
  have CP:Hid (∀W,Below W1.heap.size W1 W→Calls Tryz.prog 69 #[.slice none 0 0] W λe w'=>∃s r,e=.returned (.pointer (some ⟨s,0,none⟩))∧Below W1.heap.size W1 w'∧Hid ((W.heap.size≤s∧W.heap.size≤r∧s<w'.heap.size∧r<w'.heap.size∧s≠r)∧ZP w' s r [])∧Below W.heap.size W w'):=hid λW h=>(VL none 0 [] W (by simp) (.inl rfl)).mono λe w' ⟨s,r,h1,h2,h3,h4,h5⟩=>⟨s,r,h1,h.trans (h5.mono h.size),hid ⟨⟨h2,h3,h4.lt,h4.map.lt,h4.map.ne_cell h4.box⟩,h4⟩,h5⟩
  have H0:Below W1.heap.size W1 W1.drew:=(Below.refl _ _).drew
  have HB1:=hid hb1
  clear hb1 k0 k1 c0 c1 c2
  go_enter Tryz.func28,Tryz.ntmps28
  go_wp2_with fail
  try rw [hW1]
  clear hW1
  go_region_held3 (λW=>Below W1.heap.size W1 W∧W.cell? ⟨w.heap.size,0,none⟩=some (.int .u16 x)∧W.cell? ⟨w.heap.size,1,none⟩=some (.int .u32 y)∧W.cell? ⟨w.heap.size+1,0,none⟩=some (.int .i64 l)∧W.cell? ⟨w.heap.size+1,1,none⟩=some (.int .i64 m)∧W.cell? ⟨w.heap.size+1,2,none⟩=some (.int .i64 t)) (exact HS.out _ (by repeat (first | assumption | exact H0 | exact Below.refl _ _ | refine Zd ?_ _ | refine Below.drew ?_))) (first
    | (go_at_call 67;refine (CH.out _ (by repeat (first | assumption | exact H0 | exact Below.refl _ _ | refine Zd ?_ _ | refine Below.drew ?_))).mono ?_;rintro e w6 ⟨h6,r6,rfl,hb6,H6,hq6⟩)
    | (go_at_call 68;refine (CW.out _ (by repeat (first | assumption | exact H0 | exact Below.refl _ _ | refine Zd ?_ _ | refine Below.drew ?_))).mono ?_;rintro e w7 ⟨h7,r7,rfl,hb7,H7,hq7⟩)
    | (go_at_call 69;refine (CP.out _ (by repeat (first | assumption | exact H0 | exact Below.refl _ _ | refine Zd ?_ _ | refine Below.drew ?_))).mono ?_;rintro e w8 ⟨h8,r8,rfl,hb8,H8,hq8⟩))
  all_goals (
    go_wp2
    go_ret
    have s6:=H6.out.1
    have s7:=H7.out.1
    have s8:=H8.out.1
    simp only [World.size_alloc,World.size_drew] at s6 s7 s8
    have t6:=hb6.size
    have t7:=hb7.size
    have t8:=hb8.size
    refine blank_of (r:=r6) (wr:=r7) (sr:=r8) HB1 rfl (Zc.madeN _ _ _ (by first | rfl | simp)) ?_ ?_ ?_ ?_ ?_ ?_ ?_ ?_)
  all_goals (first
    | (simp only [List.forall_mem_cons,List.not_mem_nil,false_implies,implies_true,and_true,World.size_alloc,World.size_drew];omega)
    | (simp only [List.nodup_cons,List.mem_cons,List.not_mem_nil,or_false,not_or,List.nodup_nil,and_true,not_false_eq_true,World.size_alloc,World.size_drew];omega)
    | (clear hq6 hq7 hq8;(repeat (first | assumption | exact Below.refl _ _ | refine Zd ?_ _ | refine Below.drew ?_));done)
    | (clear hb6 hb7 hb8;refine H6.out.2.ext ?_;(repeat (first | assumption | exact Below.refl _ _ | refine Zd ?_ _ | refine Zh ?_ (by assumption) | refine Below.drew ?_));done)
    | (clear hb6 hb7 hb8;refine H7.out.2.ext ?_;(repeat (first | assumption | exact Below.refl _ _ | refine Zd ?_ _ | refine Zh ?_ (by assumption) | refine Below.drew ?_));done)
    | (clear hb6 hb7 hb8;refine H8.out.2.ext ?_;(repeat (first | assumption | exact Below.refl _ _ | refine Zd ?_ _ | refine Zh ?_ (by assumption) | refine Below.drew ?_));done)
    | (clear hb6 hb7 hb8;intros;first
      | (refine VX (X:=w8) ?_ ?_
         · first | rfl | (simp;done)
         · (repeat (first | assumption | exact Below.refl _ _ | refine Zd ?_ _ | refine Zh ?_ hq8 | refine Zh ?_ hq7 | refine Zh ?_ hq6 | refine Below.drew ?_));done)
      | (refine VX (X:=w8.alloc (.map #[] 0)) ?_ ?_
         · first | rfl | (simp;done)
         · (repeat (first | assumption | exact Below.refl _ _ | refine Zd ?_ _ | refine Zh ?_ hq8 | refine Zh ?_ hq7 | refine Zh ?_ hq6 | refine Below.drew ?_));done)
      | (refine VX (X:=w7) ?_ ?_
         · first | rfl | (simp;done)
         · (repeat (first | assumption | exact Below.refl _ _ | refine Zd ?_ _ | refine Zh ?_ hq8 | refine Zh ?_ hq7 | refine Zh ?_ hq6 | refine Below.drew ?_));done)
      | (refine VX (X:=w7.alloc (.map #[] 0)) ?_ ?_
         · first | rfl | (simp;done)
         · (repeat (first | assumption | exact Below.refl _ _ | refine Zd ?_ _ | refine Zh ?_ hq8 | refine Zh ?_ hq7 | refine Zh ?_ hq6 | refine Below.drew ?_));done)
      | (refine VX (X:=w6) ?_ ?_
         · first | rfl | (simp;done)
         · (repeat (first | assumption | exact Below.refl _ _ | refine Zd ?_ _ | refine Zh ?_ hq8 | refine Zh ?_ hq7 | refine Zh ?_ hq6 | refine Below.drew ?_));done)
      | (refine VX (X:=w6.alloc (.map #[] 0)) ?_ ?_
         · first | rfl | (simp;done)
         · (repeat (first | assumption | exact Below.refl _ _ | refine Zd ?_ _ | refine Zh ?_ hq8 | refine Zh ?_ hq7 | refine Zh ?_ hq6 | refine Below.drew ?_));done)
      | (refine VX (X:=W1) ?_ ?_
         · first | rfl | (simp;done)
         · (repeat (first | assumption | exact Below.refl _ _ | refine Zd ?_ _ | refine Zh ?_ hq8 | refine Zh ?_ hq7 | refine Zh ?_ hq6 | refine Below.drew ?_));done)
      | (refine VX (X:=W1.alloc (.map #[] 0)) ?_ ?_
         · first | rfl | (simp;done)
         · (repeat (first | assumption | exact Below.refl _ _ | refine Zd ?_ _ | refine Zh ?_ hq8 | refine Zh ?_ hq7 | refine Zh ?_ hq6 | refine Below.drew ?_));done)
      | (refine VX (X:=W1.drew) ?_ ?_
         · first | rfl | (simp;done)
         · (repeat (first | assumption | exact Below.refl _ _ | refine Zd ?_ _ | refine Zh ?_ hq8 | refine Zh ?_ hq7 | refine Zh ?_ hq6 | refine Below.drew ?_));done)
      | (refine VX (X:=(W1.drew).alloc (.map #[] 0)) ?_ ?_
         · first | rfl | (simp;done)
         · (repeat (first | assumption | exact Below.refl _ _ | refine Zd ?_ _ | refine Zh ?_ hq8 | refine Zh ?_ hq7 | refine Zh ?_ hq6 | refine Below.drew ?_));done)
      | (refine VX (X:=(W1.alloc (.map #[] 0)).drew) ?_ ?_
         · first | rfl | (simp;done)
         · repeat (first | assumption | exact Below.refl _ _ | refine Zd ?_ _ | refine Zh ?_ hq8 | refine Zh ?_ hq7 | refine Zh ?_ hq6 | refine Below.drew ?_))))
end Go.Proofs.YtcdpaflmofljaaaGreat

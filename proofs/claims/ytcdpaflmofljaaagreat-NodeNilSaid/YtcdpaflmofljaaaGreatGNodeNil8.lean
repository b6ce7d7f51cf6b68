import Derived.Test.YtcdpaflmofljaaaGreatGNodeNil7
import Derived.Shelf.SlSortCmp.NoneTotal
import Derived.Sort.OwnSortedInts
import Derived.Maps.RangeRun
import Derived.Maps.RangeWalk
import Derived.Lib.PathFns
import Derived.Shelf.Strings.Builder1
import Derived.Lib.Builder
import Derived.Lib.AppendStr
import Derived.Lib.OthersKept
import Derived.Lib.FrozenHead
/- Parts of the proof of NodeNil: FF LA Shelf T1 T2 M1 N1 ND NE LB LC LD LE LF. -/
namespace Go.Proofs.YtcdpaflmofljaaaGreat
open Go.RowKit
theorem sendNil (a:Option Addr) (n c:Nat) (w:World):Calls Tryz.prog 19 #[.pointer none,.slice a n c] w λe w'=>e=.returned (.tuple #[.int .u64 0,.int .i64 17])∧w'=w:=by
 go_enter Tryz.func19,Tryz.ntmps19
 go_wp2_with fail
 exact bodyPost_ret (v:=.tuple #[.int .u64 0,.int .i64 17]) (by simp [results,Tryz.results19,go_sem]) rfl ⟨rfl,rfl⟩
theorem tickNil (w:World):Calls Tryz.prog 20 #[.pointer none] w λe w'=>e=.returned (.tuple #[])∧w'=w:=by
 go_enter Tryz.func20,Tryz.ntmps20
 go_wp2_with fail
 exact bodyPost_ret (v:=.tuple #[]) (by simp [results,Tryz.results20,go_sem]) rfl ⟨rfl,rfl⟩
theorem leaveNil (w:World):Calls Tryz.prog 25 #[.pointer none] w λe w'=>e=.returned (.int .i64 17)∧w'=w:=by
 go_enter Tryz.func25,Tryz.ntmps25
 go_wp2_with fail
 go_ret
 exact ⟨rfl,rfl⟩
theorem outNilN (w:World):Calls Tryz.prog 21 #[.pointer none] w λe w'=>e=.returned (.slice none 0 0)∧w'=w:=by
 go_enter Tryz.func21,Tryz.ntmps21
 go_wp2_with fail
 go_ret
 exact ⟨rfl,rfl⟩
theorem pollNil (w:World):Calls Tryz.prog 11 #[.pointer none] w λe w'=>e=.returned (.slice none 0 0)∧w'=w:=by
 go_enter Tryz.func11,Tryz.ntmps11
 go_wp2_with fail
 go_ret
 exact ⟨rfl,rfl⟩
theorem placeNil (w:World):Calls Tryz.prog 12 #[.pointer none] w λe w'=>e=.returned (.int .i64 2)∧w'=w:=by
 go_enter Tryz.func12,Tryz.ntmps12
 go_wp2_with fail
 go_ret
 exact ⟨rfl,rfl⟩
theorem zcs (w:World):Calls Tryz.prog 13 #[.pointer none] w λe w'=>e=.returned (.int .u64 0)∧w'=w:=by
 go_enter Tryz.func13,Tryz.ntmps13
 go_wp2_with fail
 go_ret
 exact ⟨rfl,rfl⟩
theorem Ec (w:World):Calls Tryz.prog 34 #[.pointer none] w λe w'=>e=.returned (.bool false)∧w'=w:=by
 go_enter Tryz.func34,Tryz.ntmps34
 go_wp2_with fail
 go_ret
 exact ⟨rfl,rfl⟩
theorem zbA (w:World):Calls Tryz.prog 14 #[.pointer none] w λe w'=>e=.returned (.slice none 0 0)∧w'=w:=by
 go_enter Tryz.func14,Tryz.ntmps14
 go_wp2_with fail
 refine (Ec _).mono ?_
 rintro e w1 ⟨rfl,rfl⟩
 go_wp2_with fail
 go_ret
 exact ⟨rfl,rfl⟩
theorem viewNil (w:World):Calls Tryz.prog 16 #[.pointer none] w λe w'=>e=.returned (.agg #[.int .u64 0,.slice none 0 0,.slice none 0 0,.slice none 0 0])∧Below w.heap.size w w':=by
 go_enter Tryz.func16,Tryz.ntmps16
 go_wp2_with fail
 refine (Ec _).mono ?_
 rintro e w1 ⟨rfl,rfl⟩
 go_wp2_with fail
 exact bodyPost_ret (YX (fn:=Tryz.f16) (p:=2) (ty:=35) rfl _ _ w.heap.size 0 [.int .u64 0,.slice none 0 0,.slice none 0 0,.slice none 0 0] _ rfl (Xe.made [.int .u64 0,.slice none 0 0,.slice none 0 0,.slice none 0 0] w _).r Tryz.underlying35 rfl (by kernel_rfl)) rfl ⟨rfl,bra⟩
theorem sizesNil (w:World):Calls Tryz.prog 23 #[.pointer none] w λe w'=>e=.returned (.agg #[.int .i64 0,.int .i64 0,.int .i64 0,.int .i64 0])∧Below w.heap.size w w':=by
 go_enter Tryz.func23,Tryz.ntmps23
 go_wp2_with fail
 exact bodyPost_ret (YX (fn:=Tryz.f23) (p:=2) (ty:=60) rfl _ _ w.heap.size 0 [.int .i64 0,.int .i64 0,.int .i64 0,.int .i64 0] _ rfl (Xe.made [.int .i64 0,.int .i64 0,.int .i64 0,.int .i64 0] w _).r Tryz.underlying60 rfl (by kernel_rfl)) rfl ⟨rfl,bra⟩
set_option maxRecDepth 100000 in
theorem zdS {a:Option Addr} {c n:Nat} {bs:List Nat} {w:World} (hn:Hid (bs.length=n)) (hnc:n≤c) (hl:n≤140737488355328) (hby:∀b∈bs,b<256) (hrow:Zg w a bs) :
  Calls Tryz.prog 24 #[.pointer none,.slice a n c] w λe w'=>e=.returned (.int .i64 1)∧Below w.heap.size w w':=by
 have CD:=hid (zaM hn hnc hl hby hrow)
 clear hn hnc hl hby hrow
 go_enter Tryz.func24,Tryz.ntmps24
 go_wp2_with fail
 refine CD.out.mono ?_
 rintro e w1 ⟨⟨k,s,er,x1,y1,x2,y2,ba,bn,bc,rfl⟩,hb⟩
 clear CD
 go_wp2_with fail
 go_ret
 exact ⟨rfl,hb.alloc hb.size _⟩
theorem zca (w:World):Calls Tryz.prog 287 #[.int .i64 0] w λe w'=>e=.returned (.tuple #[.int .i64 0,.int .u64 1,.bool true])∧w'=w:=by
 have b63:bits BinOp.and IntKind.u64 0 63=0:=by rfl
 go_enter Tryz.func287,Tryz.ntmps287
 go_wp2
 refine bodyPost_ret (v:=.tuple #[.int .i64 0,.int .u64 1,.bool true]) (by simp [results,Tryz.results287,go_sem]) rfl ⟨?_,rfl⟩
 rfl
theorem zc6 (w:World):Calls Tryz.prog 355 #[.int .u64 0] w λe w'=>e=.returned (.int .i64 0)∧w'=w:=by
 go_enter Tryz.func355,Tryz.ntmps355
 go_wp2
 go_ret
 exact ⟨by rfl,rfl⟩
theorem zek (w:World):Calls Tryz.prog 355 #[.int .u64 1] w λe w'=>e=.returned (.int .i64 1)∧w'=w:=by
 go_enter Tryz.func355,Tryz.ntmps355
 go_wp2
 go_ret
 exact ⟨by rfl,rfl⟩
theorem JR (w:World):Calls Tryz.prog 195 #[.agg #[.int .u64 0,.int .u64 0],.int .i64 0] w λe w'=>e=.returned (.bool false)∧Below w.heap.size w w':=by
 have b01:bits BinOp.and IntKind.u64 0 1=0:=by rfl
 go_enter Tryz.func195,Tryz.ntmps195
 go_wp2_with (go_at_call 287;refine (zca _).mono ?_;rintro e w2 ⟨rfl,rfl⟩)
 go_ret
 exact ⟨by rfl,bra⟩
theorem Fa (n:Int) (r:Int) (hn:n=1∧r=1∨n=0∧r=0) (w:World):Calls Tryz.prog 356 #[.int .i64 n] w λe w'=>e=.returned (.int .u64 r)∧w'=w:=by
 rcases hn with ⟨rfl,rfl⟩ | ⟨rfl,rfl⟩
 all_goals
  go_enter Tryz.func356,Tryz.ntmps356
  go_wp2
  go_ret
  exact ⟨by rfl,rfl⟩
theorem FE (a b:Value):(Tryz.prog.info? 253).map (·.size)=some [a,b].length:=by kernel_rfl
theorem QX {W:World} {n:Nat} (h:n=W.heap.size) (a b:Value):(W.alloc (.cells #[a,b] 253)).rangeAt n 0 [a,b]:=λj v hj=>by
 rw [Nat.zero_add,h]
 exact (Zc.made W 253 [a,b]).cell hj
theorem FU (w:World):Calls Tryz.prog 338 #[.agg #[.int .u64 0,.int .u64 0],.int .i64 0] w λe w'=>e=.returned (.agg #[.int .u64 1,.int .u64 0])∧Below w.heap.size w w':=by
 have b01:bits BinOp.or IntKind.u64 0 1=1:=by rfl
 go_enter Tryz.func338,Tryz.ntmps338
 go_wp2_with (go_at_call 287;refine (zca _).mono ?_;rintro e w2 ⟨rfl,rfl⟩)
 exact bodyPost_ret (v:=.agg #[.int .u64 1,.int .u64 0]) (Yv (b:=w.heap.size+1) (o:=0) (cs:=[.int .u64 1,.int .u64 0]) rfl _ _ rfl (QX (by simp) _ _) Tryz.underlying253 rfl (FE _ _)) rfl ⟨rfl,(bra).alloc (by simp) _⟩
theorem Er (w:World):Calls Tryz.prog 350 #[.agg #[.int .u64 1,.int .u64 0],.agg #[.int .u64 1,.int .u64 0]] w λe w'=>e=.returned (.agg #[.int .u64 1,.int .u64 0])∧Below w.heap.size w w':=by
 have b1:bits BinOp.and IntKind.u64 1 1=1:=by rfl
 have b0:bits BinOp.and IntKind.u64 0 0=0:=by rfl
 go_enter Tryz.func350,Tryz.ntmps350
 go_wp2
 exact bodyPost_ret (v:=.agg #[.int .u64 1,.int .u64 0]) (Yv (b:=w.heap.size+2) (o:=0) (cs:=[.int .u64 1,.int .u64 0]) rfl _ _ rfl (QX (by simp) _ _) Tryz.underlying253 rfl (FE _ _)) rfl ⟨rfl,((bra).alloc (by simp) _).alloc (by simp;omega) _⟩
set_option maxRecDepth 100000 in
theorem Gs (w:World):Calls Tryz.prog 351 #[.int .i64 1] w λe w'=>e=.returned (.agg #[.int .u64 1,.int .u64 0])∧Below w.heap.size w w':=by
 have C1:=λw=>Fa 1 1 (.inl ⟨rfl,rfl⟩) w
 have C0:=λw=>Fa 0 0 (.inr ⟨rfl,rfl⟩) w
 go_enter Tryz.func351,Tryz.ntmps351
 go_wp2_with fail
 refine (C1 _).mono ?_
 rintro e w2 ⟨rfl,rfl⟩
 clear C1
 go_wp2_with fail
 refine (C0 _).mono ?_
 rintro e w3 ⟨rfl,rfl⟩
 clear C0
 go_wp2_with fail
 exact bodyPost_ret (v:=.agg #[.int .u64 1,.int .u64 0]) (Yv (b:=w.heap.size) (o:=0) (cs:=[.int .u64 1,.int .u64 0]) rfl _ _ rfl (QX (by simp) _ _) Tryz.underlying253 rfl (FE _ _)) rfl ⟨rfl,bra⟩
theorem Gw (w:World):Calls Tryz.prog 349 #[.agg #[.int .u64 1,.int .u64 0]] w λe w'=>e=.returned (.int .i64 1)∧Below w.heap.size w w':=by
 have h0:∀{w0:World} (U:YB w0),Calls Tryz.prog 355 #[.int .u64 0] U.W λe w'=>e=.returned (.int .i64 0)∧∃U':YB w0,w'=U'.W:=λU=>ZN ((zc6 U.W).mono λe w' ⟨h1,h2⟩=>⟨h1,by rw [h2];exact Below.refl _ _⟩) rfl
 have h1:∀{w0:World} (U:YB w0),Calls Tryz.prog 355 #[.int .u64 1] U.W λe w'=>e=.returned (.int .i64 1)∧∃U':YB w0,w'=U'.W:=λU=>ZN ((zek U.W).mono λe w' ⟨h1,h2⟩=>⟨h1,by rw [h2];exact Below.refl _ _⟩) rfl
 obtain ⟨W1,hW1⟩:∃W1,w.alloc (.cells #[.int .u64 1,.int .u64 0] 253)=W1:=⟨_,rfl⟩
 have hB:Below w.heap.size w W1:=by rw [←hW1];exact bra
 have hz:w.heap.size≤W1.heap.size:=hB.size
 have k0:=Za (show W1.cell? ⟨w.heap.size,0,none⟩=some (.int .u64 1) by rw [←hW1];simp)
 have k1:=Za (show W1.cell? ⟨w.heap.size,1,none⟩=some (.int .u64 0) by rw [←hW1];simp)
 go_enter Tryz.func349,Tryz.ntmps349
 go_wp2_with fail
 try rw [hW1]
 clear hW1
 refine Ze (w:=W1) (Below.refl _ _) (by kernel_rfl) (by kernel_rfl) ?_
 repeat (go_big_quiet_step (first | with_reducible exact h1 _ | with_reducible exact h0 _))
 refine wpQuiet_nil ?_
 rintro w9 ⟨⟨_,hb9⟩,rfl⟩
 go_wp2_with fail
 go_ret
 exact ⟨rfl,hB.trans (hb9.mono hz)⟩
theorem Fh (w:World):Calls Tryz.prog 339 #[.agg #[.int .u64 1,.int .u64 0],.int .i64 1] w λe w'=>e=.returned (.bool true)∧Below w.heap.size w w':=by
 have h0:∀{w0:World} (U:YB w0),Calls Tryz.prog 351 #[.int .i64 1] U.W λe w'=>e=.returned (.agg #[.int .u64 1,.int .u64 0])∧∃U':YB w0,w'=U'.W:=λU=>ZN (Gs U.W) rfl
 have h1:∀{w0:World} (U:YB w0),Calls Tryz.prog 350 #[.agg #[.int .u64 1,.int .u64 0],.agg #[.int .u64 1,.int .u64 0]] U.W λe w'=>e=.returned (.agg #[.int .u64 1,.int .u64 0])∧∃U':YB w0,w'=U'.W:=λU=>ZN (Er U.W) rfl
 have h2:∀{w0:World} (U:YB w0),Calls Tryz.prog 349 #[.agg #[.int .u64 1,.int .u64 0]] U.W λe w'=>e=.returned (.int .i64 1)∧∃U':YB w0,w'=U'.W:=λU=>ZN (Gw U.W) rfl
 obtain ⟨W1,hW1⟩:∃W1,w.alloc (.cells #[.int .u64 1,.int .u64 0] 253)=W1:=⟨_,rfl⟩
 have hB:Below w.heap.size w W1:=by rw [←hW1];exact bra
 have hz:w.heap.size≤W1.heap.size:=hB.size
 have k0:=Za (show W1.cell? ⟨w.heap.size,0,none⟩=some (.int .u64 1) by rw [←hW1];simp)
 have k1:=Za (show W1.cell? ⟨w.heap.size,1,none⟩=some (.int .u64 0) by rw [←hW1];simp)
 go_enter Tryz.func339,Tryz.ntmps339
 go_upto_region 3 with fail
 try rw [hW1]
 clear hW1
 refine Ze (w:=W1) (Below.refl _ _) (by kernel_rfl) (by kernel_rfl) ?_
 repeat (go_big_quiet_step (first | with_reducible exact h0 _ | with_reducible exact h1 _ | with_reducible exact h2 _))
 refine wpQuiet_nil ?_
 rintro w9 ⟨⟨_,hb9⟩,rfl⟩
 go_wp2_with fail
 go_ret
 exact ⟨by rfl,hB.trans (hb9.mono hz)⟩
end Go.Proofs.YtcdpaflmofljaaaGreat
namespace Go.Proofs
open Go.Shelf
def Tryz.sortPid_ren : Go.Shelf.Ren := ⟨fun | 6 => 82 | 15 => 183 | 14 => 182 | 28 => 275 | 29 => 276 | 20 => 267 | 21 => 268 | 22 => 269 | 23 => 270 | 24 => 271 | 25 => 272 | 26 => 273 | 27 => 274 | 46 => 327 | 47 => 328 | 48 => 329 | 49 => 330 | 50 => 331 | 57 => 348 | n => n, fun | 22 => 26 | 24 => 25 | 25 => 155 | 3 => 3 | 39 => 201 | 0 => 0 | 53 => 23 | 55 => 32 | 4 => 4 | 46 => 333 | 45 => 332 | 50 => 278 | 5 => 5 | 9 => 9 | 66 => 374 | 70 => 376 | 76 => 388 | 77 => 389 | n => n, fun | n => n⟩
theorem Tryz.sortPid : Go.Proofs.SlLaysF0.n6 Tryz.prog Tryz.sortPid_ren := {
  mixed := by kernel_rfl
  f6 := ⟨Tryz.f82.name, by decide, Tryz.func82.trans (congrArg some (by kernel_rfl))⟩
  f14 := ⟨Tryz.f182.name, by decide, Tryz.func182.trans (congrArg some (by kernel_rfl))⟩
  f15 := Tryz.func183.trans (congrArg some (by kernel_rfl))
  f20 := ⟨Tryz.f267.name, by decide, Tryz.func267.trans (congrArg some (by kernel_rfl))⟩
  f21 := ⟨Tryz.f268.name, by decide, Tryz.func268.trans (congrArg some (by kernel_rfl))⟩
  f22 := ⟨Tryz.f269.name, by decide, Tryz.func269.trans (congrArg some (by kernel_rfl))⟩
  f23 := ⟨Tryz.f270.name, by decide, Tryz.func270.trans (congrArg some (by kernel_rfl))⟩
  f24 := ⟨Tryz.f271.name, by decide, Tryz.func271.trans (congrArg some (by kernel_rfl))⟩
  f25 := ⟨Tryz.f272.name, by decide, Tryz.func272.trans (congrArg some (by kernel_rfl))⟩
  f26 := ⟨Tryz.f273.name, by decide, Tryz.func273.trans (congrArg some (by kernel_rfl))⟩
  f27 := ⟨Tryz.f274.name, by decide, Tryz.func274.trans (congrArg some (by kernel_rfl))⟩
  f28 := Tryz.func275.trans (congrArg some (by kernel_rfl))
  f29 := Tryz.func276.trans (congrArg some (by kernel_rfl))
  f46 := ⟨Tryz.f327.name, by decide, Tryz.func327.trans (congrArg some (by kernel_rfl))⟩
  f47 := Tryz.func328.trans (congrArg some (by kernel_rfl))
  f48 := Tryz.func329.trans (congrArg some (by kernel_rfl))
  f49 := ⟨Tryz.f330.name, by decide, Tryz.func330.trans (congrArg some (by kernel_rfl))⟩
  f50 := ⟨Tryz.f331.name, by decide, Tryz.func331.trans (congrArg some (by kernel_rfl))⟩
  f57 := ⟨Tryz.f348.name, by decide, Tryz.func348.trans (congrArg some (by kernel_rfl))⟩
  t0 := Tryz.underlying0
  a0 := Tryz.isAgg0
  z0 := Tryz.sizeOf0
  v0 := Tryz.zeroValue0
  t3 := Tryz.underlying3
  a3 := Tryz.isAgg3
  z3 := Tryz.sizeOf3
  v3 := Tryz.zeroValue3
  t4 := Tryz.underlying4
  a4 := Tryz.isAgg4
  z4 := Tryz.sizeOf4
  v4 := Tryz.zeroValue4
  t5 := Tryz.underlying5
  a5 := Tryz.isAgg5
  z5 := Tryz.sizeOf5
  v5 := Tryz.zeroValue5
  t9 := Tryz.underlying9
  a9 := Tryz.isAgg9
  z9 := Tryz.sizeOf9
  v9 := Tryz.zeroValue9
  t22 := Tryz.underlying26
  a22 := Tryz.isAgg26
  z22 := Tryz.sizeOf26
  v22 := Tryz.zeroValue26
  t25 := Tryz.underlying155
  a25 := Tryz.isAgg155
  z25 := Tryz.sizeOf155
  v25 := Tryz.zeroValue155
  t39 := Tryz.underlying201
  a39 := Tryz.isAgg201
  z39 := Tryz.sizeOf201
  v39 := Tryz.zeroValue201
  t45 := Tryz.underlying332
  a45 := Tryz.isAgg332
  z45 := Tryz.sizeOf332
  v45 := Tryz.zeroValue332
  t46 := Tryz.underlying333
  a46 := Tryz.isAgg333
  z46 := Tryz.sizeOf333
  v46 := Tryz.zeroValue333
  t50 := Tryz.underlying278
  a50 := Tryz.isAgg278
  z50 := Tryz.sizeOf278
  v50 := Tryz.zeroValue278
  t53 := Tryz.underlying23
  a53 := Tryz.isAgg23
  z53 := Tryz.sizeOf23
  v53 := Tryz.zeroValue23
  t55 := Tryz.underlying32
  a55 := Tryz.isAgg32
  z55 := Tryz.sizeOf32
  v55 := Tryz.zeroValue32
  t66 := Tryz.underlying374
  a66 := Tryz.isAgg374
  z66 := Tryz.sizeOf374
  v66 := Tryz.zeroValue374
  t70 := Tryz.underlying376
  a70 := Tryz.isAgg376
  z70 := Tryz.sizeOf376
  v70 := Tryz.zeroValue376
  t76 := Tryz.underlying388
  a76 := Tryz.isAgg388
  z76 := Tryz.sizeOf388
  v76 := Tryz.zeroValue388
  t77 := Tryz.underlying389
  a77 := Tryz.isAgg389
  z77 := Tryz.sizeOf389
  v77 := Tryz.zeroValue389 }
end Go.Proofs
namespace Go.Proofs.YtcdpaflmofljaaaGreat
open Go.RowKit
open Go.Sort (grow grow_grow grow_empty alloc_eq_grow ahead putRow putCells HoldsK Holds flatK SWO)
def VW (w w':World):Prop:=∃q os,w'=grow (w.drewN q) os
theorem VW.refl (w:World):VW w w:=⟨0,#[],by rw [grow_empty];rfl⟩
theorem VW.alloc {w w':World} (h:VW w w') (o:Obj):VW w (w'.alloc o):=by
 obtain ⟨q,os,rfl⟩:=h
 exact ⟨q,os ++ #[o],by rw [alloc_eq_grow,grow_grow]⟩
theorem VW.trans {a b c:World} (h:VW a b) (k:VW b c):VW a c:=by
 obtain ⟨q,os,rfl⟩:=h
 obtain ⟨q',os',rfl⟩:=k
 refine ⟨q+q',os ++ os',?_⟩
 rw [←grow_grow]
 unfold grow World.drewN
 simp [Nat.add_assoc]
theorem VW.drew {w w':World} (h:VW w w'):VW w w'.drew:=h.trans ⟨1,#[],by rw [grow_empty];rfl⟩
theorem VW.below {w w':World} (h:VW w w'):Below w.heap.size w w':=by
 obtain ⟨q,os,rfl⟩:=h
 refine ⟨rfl,rfl,rfl,by simp [grow,World.drewN],λk hk=>?_⟩
 simp [grow,World.drewN,Array.getElem?_append,hk]
structure KP (w:World) where
 W:World
 h:VW w W
instance grewW_some (w:World):Nonempty (KP w):=⟨⟨w,VW.refl _⟩⟩
theorem KI {P:Program} {w wr:World} {id:Nat} {Q:Exit→Act→World→Prop} {a:Act} {l:List Oper} (hb:VW w wr) (hm:P.follows .mixedOrders=true) (hB:Region.lexB .any l.toArray=true)
  (h:wpQuiet P l.toArray (λw'=>∃U:KP w,w'=U.W) (λa'=>∀w',(∃U:KP w,w'=U.W)→Q .normal a' w') l a):(Code.region id l.toArray true).wp P Q a wr :=
 wp_region_quiet (C:=λw'=>∃U:KP w,w'=U.W) hm hB ⟨⟨wr.drew,hb.drew⟩,rfl⟩ (by simpa using h)
theorem YK {w:World} {a:Addr} {v:Value} (h:w.cell? a=some v):∀U:KP w,U.W.cell? a=some v:=λU=>(U.h.below.cell (World.block_lt_of_cell? w _ h)).trans h
theorem Fr {P:Program} {f:FuncId} {args:Array Value} {w0:World} {U:KP w0} {v v':Value} (h:Calls P f args U.W λe w'=>e=.returned v∧VW U.W w') (hv:v=v') :
  Calls P f args U.W λe w'=>e=.returned v'∧∃U':KP w0,w'=U'.W:=by
 subst hv
 refine h.mono ?_
 rintro e w' ⟨rfl,hb⟩
 exact ⟨rfl,⟨_,U.h.trans hb⟩,rfl⟩
def ok (p:Pid):Prop:=0≤p.1∧p.1<65536∧0≤p.2∧p.2<4294967296
def JW (p:Pid):Int:=p.1 * 4294967296+p.2
def ahead (p q:Pid):Bool:=decide (JW p<JW q)
theorem ret_u64 {a b:Int} (h:a=b):Ending.returned (.int .u64 a)=.returned (.int .u64 b):=by rw [h]
theorem u64_or32 (x y:Int) (hy₀:0≤y) (hy:y<4294967296) (hx₀:0≤x) (hx:x % 4294967296=0) (hx₁:x<18446744073709551616):bits .or .u64 x y=x+y :=
 bits_join .u64 64 (by decide) wraps_u64 32 x y hx₀ hx hx₁ hy₀ hy (by omega)
set_option maxHeartbeats 400000 in
theorem GT (x y:Int) (w:World) (h:ok (x,y)):Calls Tryz.prog 184 #[.agg #[.int .u16 x,.int .u32 y]] w λe w'=>e=.returned (.int .u64 (JW (x,y)))∧VW w w':=by
 obtain ⟨hx,hx2,hy,hy2⟩:=h
 simp only at hx hx2 hy hy2
 go_enter Tryz.func184,Tryz.ntmps184
 go_wp2
 go_ret
 exact ⟨ret_u64 (u64_or32 _ _ hy hy2 (by omega) (by omega) (by omega)),(VW.refl _).alloc _⟩
set_option maxHeartbeats 400000 in
theorem Es (a b c d:Int) (w:World) (h1:ok (a,b)) (h2:ok (c,d)):Calls Tryz.prog 84 #[.agg #[.int .u16 a,.int .u32 b],.agg #[.int .u16 c,.int .u32 d]] w λe w'=>e=.returned (.bool (ahead (a,b) (c,d)))∧VW w w':=by
 have hB:VW w ((w.alloc (.cells #[.int .u16 a,.int .u32 b] 25)).alloc (.cells #[.int .u16 c,.int .u32 d] 25)):=((VW.refl _).alloc _).alloc _
 have k0:((w.alloc (.cells #[.int .u16 a,.int .u32 b] 25)).alloc (.cells #[.int .u16 c,.int .u32 d] 25)).cell? ⟨w.heap.size,0,none⟩=some (.int .u16 a):=by simp
 have k1:((w.alloc (.cells #[.int .u16 a,.int .u32 b] 25)).alloc (.cells #[.int .u16 c,.int .u32 d] 25)).cell? ⟨w.heap.size,1,none⟩=some (.int .u32 b):=by simp
 have k2:((w.alloc (.cells #[.int .u16 a,.int .u32 b] 25)).alloc (.cells #[.int .u16 c,.int .u32 d] 25)).cell? ⟨w.heap.size+1,0,none⟩=some (.int .u16 c):=by simp
 have k3:((w.alloc (.cells #[.int .u16 a,.int .u32 b] 25)).alloc (.cells #[.int .u16 c,.int .u32 d] 25)).cell? ⟨w.heap.size+1,1,none⟩=some (.int .u32 d):=by simp
 go_enter Tryz.func84,Tryz.ntmps84
 go_wp2
 revert hB k0 k1 k2 k3
 generalize (w.alloc (.cells #[.int .u16 a,.int .u32 b] 25)).alloc (.cells #[.int .u16 c,.int .u32 d] 25)=wr
 intro hB k0 k1 k2 k3
 have f0:=YK k0
 have f1:=YK k1
 have f2:=YK k2
 have f3:=YK k3
 clear k0 k1 k2 k3
 have n1:∀U:KP wr,Calls Tryz.prog 184 #[.agg #[.int .u16 a,.int .u32 b]] U.W λe w'=>e=.returned (.int .u64 (JW (a,b)))∧∃U':KP wr,w'=U'.W:=λU=>Fr (GT a b U.W h1) rfl
 have n2:∀U:KP wr,Calls Tryz.prog 184 #[.agg #[.int .u16 c,.int .u32 d]] U.W λe w'=>e=.returned (.int .u64 (JW (c,d)))∧∃U':KP wr,w'=U'.W:=λU=>Fr (GT c d U.W h2) rfl
 have hs:ahead (a,b) (c,d)=decide (JW (a,b)<JW (c,d)):=rfl
 have HS:=hid hs
 clear hs
 revert n1 n2 HS
 generalize JW (a,b)=A
 generalize JW (c,d)=B
 intro n1 n2 HS
 refine KI (w:=wr) (VW.refl _) (by kernel_rfl) (by kernel_rfl) ?_
 repeat (go_big_quiet_step (first | (go_at_call_of 184 c;exact n2 _) | exact n1 _))
 refine wpQuiet_nil ?_
 rintro w9 ⟨⟨_,hb9⟩,rfl⟩
 go_wp2
 go_ret
 exact ⟨Zm HS.out.symm,hB.trans hb9⟩
theorem zb7 {a b c d:Int} {w:World} {bm:Bool} (h:Hid (ahead (a,b) (c,d)=bm)) (h1:ok (a,b)) (h2:ok (c,d)):Calls Tryz.prog 84 #[.agg #[.int .u16 a,.int .u32 b],.agg #[.int .u16 c,.int .u32 d]] w λe w'=>e=.returned (.bool bm)∧VW w w':=by
 have:=Es a b c d w h1 h2
 rw [h.out] at this
 exact this
def cmpP (p q:Pid):Int:=if ahead p q=true then -1 else 1
set_option maxHeartbeats 400000 in
theorem cmp_any (a b c d:Int) (w:World) (h1:ok (a,b)) (h2:ok (c,d)):Calls Tryz.prog 83 #[.agg #[.int .u16 a,.int .u32 b],.agg #[.int .u16 c,.int .u32 d]] w λe w'=>e=.returned (.int .i64 (cmpP (a,b) (c,d)))∧VW w w':=by
 have hB:VW w ((w.alloc (.cells #[.int .u16 a,.int .u32 b] 25)).alloc (.cells #[.int .u16 c,.int .u32 d] 25)):=((VW.refl _).alloc _).alloc _
 have hC:cmpP (a,b) (c,d)=if ahead (a,b) (c,d)=true then -1 else 1:=rfl
 cases h:ahead (a,b) (c,d)
 ·rw [h] at hC
  have HC:=hid hC
  have H:=hid h
  clear h hC
  go_enter Tryz.func83,Tryz.ntmps83
  go_wp2_with (go_at_call 84;refine (zb7 H h1 h2).mono ?_;rintro e w3 ⟨rfl,hb3⟩)
  go_ret
  exact ⟨ZE HC.out.symm,hB.trans hb3⟩
 ·rw [h] at hC
  have HC:=hid hC
  have H:=hid h
  clear h hC
  go_enter Tryz.func83,Tryz.ntmps83
  go_wp2_with (go_at_call 84;refine (zb7 H h1 h2).mono ?_;rintro e w3 ⟨rfl,hb3⟩)
  go_ret
  exact ⟨ZE HC.out.symm,hB.trans hb3⟩
open Go.Sort (grow grow_grow grow_empty alloc_eq_grow putRow putCells HoldsK Holds flatK SWO heap_grow_old mapBlock onCells)
abbrev WP:Type:={ p:Pid // ok p }
instance:Inhabited WP:=⟨⟨(0,0),by unfold ok;simp⟩⟩
def zaG (x:WP):List Value:=[.int .u16 x.val.1,.int .u32 x.val.2]
def cmpW (x y:WP):Int:=cmpP x.val y.val
theorem ltW (x y:WP):ltOf cmpW x y=ahead x.val y.val:=by
 unfold ltOf cmpW cmpP
 cases ahead x.val y.val <;> simp
theorem swoW:SWO (ltOf cmpW) where
 irrefl x:=by rw [ltW];simp [ahead]
 trans x y z h1 h2:=by rw [ltW] at *;simp [ahead] at *;omega
 ntrans x y z h1 h2:=by rw [ltW] at *;simp [ahead] at *;omega
theorem zag {p q:Pid} (hp:ok p) (hq:ok q) (h:JW p=JW q):p=q:=by
 obtain ⟨a,b⟩:=p
 obtain ⟨c,d⟩:=q
 unfold JW at h
 obtain ⟨h1,h2,h3,h4⟩:=hp
 obtain ⟨g1,g2,g3,g4⟩:=hq
 simp only at *
 have e1:a=c:=by omega
 have e2:b=d:=by omega
 rw [e1,e2]
theorem totW (x y:WP) (h1:ltOf cmpW x y=false) (h2:ltOf cmpW y x=false):x=y:=by
 rw [ltW] at h1 h2
 simp [ahead] at h1 h2
 exact Subtype.ext (zag x.2 y.2 (by omega))
theorem Fb (d:Array WP):(flatK zaG 2 d).toList=ZD (d.toList.map (·.val)):=by
 apply List.ext_getElem?
 intro t
 by_cases ht:t<d.size * 2
 ·have h1:t / 2<d.size:=by omega
  have g:=Sort.get_flatK zaG 2 d t ht
  have hl:(flatK zaG 2 d).toList[t]?=some (flatK zaG 2 d)[t]!:=by
   rw [getElem!_pos (flatK zaG 2 d) t (by simpa using ht)]
   simp [ht]
  rw [hl,g]
  obtain ⟨c1,c2⟩:=XU (d.toList.map (·.val)) (t / 2) (by simpa using h1)
  have hd:d[t / 2]! = d[t / 2]:=getElem!_pos d _ h1
  rcases Nat.mod_two_eq_zero_or_one t with hm | hm
  ·rw [show t / 2 * 2=t by omega] at c1
   rw [c1,hm,hd];simp [zaG]
  ·rw [show t / 2 * 2+1=t by omega] at c2
   rw [c2,hm,hd];simp [zaG]
 ·rw [List.getElem?_eq_none (by simp;omega),List.getElem?_eq_none (by rw [ZZ];simp;omega)]
theorem heap_put {w:World} {g n:Nat} {os:Array Obj} {cur:Array Value} {e:TypeId} {fr:Nat × Nat} (F:Array Value) (hb:w.heap[g]?=some (.cells cur e fr)) :
  (grow (putRow id (Sort.ahead w n) g 0 F) os).heap[g]?=some (.cells (putCells id 0 F cur) e fr):=by
 have hg:g<w.heap.size:=(Array.getElem?_eq_some_iff.1 hb).1
 rw [heap_grow_old _ _ (by simpa using hg)]
 simp [putRow,mapBlock,Sort.ahead,Array.getElem?_modify,hb,onCells]
theorem zaN {w:World} {g n:Nat} {os:Array Obj} (F:Array Value):w.grownBy (grow (putRow id (Sort.ahead w n) g 0 F) os) (some g):=by
 refine ⟨rfl,rfl,rfl,by simp,λk hk hne=>?_⟩
 rw [heap_grow_old _ _ (by simpa using hk)]
 have:g≠k:=λe=>hne (by rw [e])
 simp [putRow,mapBlock,Sort.ahead,Array.getElem?_modify,this]
theorem take_put (cur F:Array Value) (h:F.size≤cur.size):(putCells id 0 F cur).toList.take F.size=F.toList:=by
 apply List.ext_getElem?
 intro j
 by_cases hj:j<F.size
 ·rw [List.getElem?_take_of_lt hj,Array.getElem?_toList]
  simp [putCells,hj,show j<cur.size by omega]
 ·rw [List.getElem?_take_eq_none (by omega),List.getElem?_eq_none (by simp;omega)]
theorem zed {w:World} {g:Nat} {cur F:Array Value} {e:TypeId} (hb:w.heap[g]?=some (.cells cur e (0,0))) (ht:cur.toList.take F.size=F.toList):Holds id w g 0 F:=by
 intro j hj
 refine ⟨?_,by simp [World.frozen?,hb]⟩
 have h1:(cur.toList.take F.size)[j]?=F.toList[j]?:=by rw [ht]
 rw [List.getElem?_take_of_lt hj] at h1
 simp only [World.cell?,hb,Nat.zero_add,Option.isSome_none,Bool.false_eq_true,if_false]
 rw [←Array.getElem?_toList,h1]
 simp [hj]
def YS (ps:List Pid):List Pid:=ps.mergeSort λx y=>!(ahead y x)
theorem YH (ps:List Pid):(YS ps).length=ps.length:=List.length_mergeSort _
theorem cmpLays (blk off size:Nat) (w:World):CmpLays Tryz.prog 83 #[] zaG 2 cmpW blk off size w :=
 λ_ _ _ _ x y=>cmp_any x.val.1 x.val.2 y.val.1 y.val.2 _ x.2 y.2
theorem zao {w:World} {base:Nat} {v:Value} {ps:List Pid} (hown:Zy w base v ps) (hok:∀p∈ps,ok p) (hn:ps.length<4611686018427387904) :
  Calls Tryz.prog 82 #[v,.func (.func 83) #[] #[]] w λe w'=>e=.returned (.tuple #[])∧Zy w' base v (YS ps)∧w.grownBy w' v.ownBlock:=by
 have eg:∀args w,(callFunc 83 args).run Tryz.prog w=.ok (.enter 83 args) w:=enters_of Tryz.func83 (by kernel_rfl) rfl
 rcases hown.2 with ⟨rfl,h0⟩ | ⟨g,cap,cur,rfl,hb,hg,hnc,hcm,hcs,htake⟩
 ·have hp:ps=[]:=List.length_eq_zero_iff.1 h0
  subst hp
  have hcon:=AnyF.slices_SortFunc_none Tryz.sortPid none 0 (.func (.func 83) #[] #[]) w
  change Calls Tryz.prog 82 _ _ _ at hcon
  refine hcon.mono ?_
  rintro e w' ⟨rfl,rfl⟩
  exact ⟨rfl,by rw [show YS []=[] by simp [YS]];exact Zy.nil _ _,⟨rfl,rfl,rfl,Nat.le_refl _,λ_ _ _=>rfl⟩⟩
 ·obtain ⟨d,hd,hds⟩:∃d:Array WP,d.toList.map (·.val)=ps∧d.size=ps.length:=by
   refine ⟨(ps.pmap Subtype.mk hok).toArray,?_,by simp⟩
   simp [List.map_pmap]
  have hF:(flatK zaG 2 d).toList=ZD ps:=by rw [Fb,hd]
  have hFs:(flatK zaG 2 d).size=ps.length * 2:=by simp [hds]
  have hH:HoldsK zaG 2 w g 0 d:=zed hg (by rw [hFs,hF];exact htake)
  have hlt:g<w.heap.size:=(Array.getElem?_eq_some_iff.1 hg).1
  have hcon:=AnyQ.slices_SortFunc_total Tryz.sortPid 2 Tryz.isAgg25 Tryz.sizeOf25 zaG (λ_=>rfl) (λx v hv=>by simp [zaG] at hv;rcases hv with rfl | rfl <;> rfl) cmpW swoW 83 #[] g 0 cap d w eg (cmpLays g 0 d.size w) hH hlt (by rw [hds];exact hn) totW
  change Calls Tryz.prog 82 _ _ _ at hcon
  rw [hds] at hcon
  refine hcon.mono ?_
  rintro e w' ⟨rfl,n,os,rfl⟩
  obtain ⟨d',hd'⟩:∃d':Array WP,d'=(d.toList.mergeSort λx y=>!(ltOf cmpW) y x).toArray:=⟨_,rfl⟩
  rw [←hd']
  have hs':d'.toList.map (·.val)=YS ps:=by
   rw [hd',← hd]
   unfold YS
   rw [List.map_mergeSort]
   intro a _ b _
   rw [ltW]
  have hsz:d'.size=ps.length:=by rw [hd'];simp [List.length_mergeSort,hds]
  have hF':(flatK zaG 2 d').toList=ZD (YS ps):=by rw [Fb,hs']
  have hFs':(flatK zaG 2 d').size=ps.length * 2:=by simp [hsz]
  refine ⟨rfl,⟨by rw [ZZ],.inr ⟨g,cap,putCells id 0 (flatK zaG 2 d') cur,by rw [YH],hb,heap_put _ hg,by rw [YH];exact hnc,hcm,by simp [putCells,hcs],?_⟩⟩,zaN _⟩
  rw [YH,← hFs',take_put _ _ (by rw [hFs',hcs];exact Nat.mul_le_mul_right _ hnc),hF']
theorem Zy.but {w w':World} {base r:Nat} {v:Value} {xs:List Pid} (h:Zy w base v xs) (hb:But r w w') {α β:Type} {ke:α→Value} {ve:β→Value} {L:List (α × β)} (hM:Zj w r ke ve L):Zy w' base v xs:=by
 refine ⟨h.1,?_⟩
 obtain ⟨es,cl,hm,_⟩:=hM
 rcases h.2 with hn | ⟨g,cap,cur,rfl,hbb,hgg,rest⟩
 ·exact .inl hn
 ·exact .inr ⟨g,cap,cur,rfl,hbb,(hb.block g (λe=>by rw [e,hm] at hgg;cases hgg)).trans hgg,rest⟩
theorem Zy.alloc {w:World} {base:Nat} {v:Value} {xs:List Pid} (h:Zy w base v xs) (o:Obj):Zy (w.alloc o) base v xs:=h.ext (bra)
theorem Zy.ne_map {w:World} {base:Nat} {v:Value} {xs:List Pid} (h:Zy w base v xs) {r:Nat} {es:Array MapEntry} {cl:Nat} (hm:w.heap[r]?=some (.map es cl)):some r≠v.ownBlock:=by
 rcases h.2 with ⟨rfl,_⟩ | ⟨g,cap,cur,rfl,hbb,hgg,rest⟩
 ·simp [Value.ownBlock]
 ·simp only [Value.ownBlock,ne_eq,Option.some.injEq]
  intro e;subst e;rw [hm] at hgg;cases hgg
theorem Zj.grown {w w':World} {r:Nat} {α β:Type} [DecidableEq α] {ke:α→Value} {ve:β→Value} {L:List (α × β)} (hM:Zj w r ke ve L) {base:Nat} {v:Value} {xs:List Pid} (h:Zy w base v xs) (hg:w.grownBy w' v.ownBlock):Zj w' r ke ve L:=by
 refine hM.same (hg.block r hM.lt ?_)
 obtain ⟨es,cl,hm,_⟩:=hM
 exact h.ne_map hm
def zcz (xs:List Pid):List Pid:=keys (Zx [] xs)
def FR (xs:List Pid):List Pid:=YS (zcz xs)
theorem EL {p:Pid} {L:List (Pid × Unit)} (h:(Yz p L).isSome=false):keys (Gm p L)=keys L ++ [p]:=by
 have:p ∉ keys L:=by rw [←ZM,h];simp
 rw [Xn this];simp [keys]
set_option maxRecDepth 100000 in
set_option maxHeartbeats 1600000 in
theorem Qc (a:Option Addr) (c:Nat) (xs:List Pid) (w:World) (hn:xs.length≤549755813888) (hrow:Zb w a xs) (hok:∀p∈xs,ok p) :
  Calls Tryz.prog 35 #[.slice a xs.length c] w λe w'=>∃v,e=.returned v∧Zy w' w.heap.size v (FR xs)∧Below w.heap.size w w':=by
 have hmm:=@run_makeMap Tryz.prog
 go_enter Tryz.func35,Tryz.ntmps35
 go_wp2
 go_loopw [4,12] (λv i wr=>∃(k:Nat) (Lk:List (Pid × Unit)),k≤xs.length∧i=.int .i64 k∧Hid (Zx [] xs=Zx Lk (xs.drop k))∧(keys Lk).length≤k∧(∀p∈keys Lk,ok p)∧Below w.heap.size w wr∧Zj wr w.heap.size Yg eU Lk∧Zy wr w.heap.size v (keys Lk)) (λ_ i _=>xs.length - (intOf i).toNat)
 case atStart=>exact ⟨0,[],Nat.zero_le _,rfl,rfl,Nat.le_refl _,by simp [keys],bra,Zj.made _,Zy.nil _ _⟩
 case round =>
  obtain ⟨k,Lk,hk,rfl,hL,hlk,hokk,hb,hM,hown⟩:=hrel
  have hs0:=hb.size
  have hs1:=hM.lt
  by_cases hlt:k<xs.length
  ·obtain ⟨b,off,x,y,rfl,hx,d1,d2⟩:=hrow.at hb rfl hlt
   have hL1:=Gh (L:=Lk) hlt hx
   have hxok:ok (x,y):=by rw [hx];exact hok _ (List.getElem_mem _)
   have HL1:=hid hL1
   have HOK:=hid hxok
   have HOKK:=hid hokk
   clear hx hrow hL1 hxok hokk
   have hB1:Below w.heap.size w (wr.alloc (.cells #[.int .u16 x,.int .u32 y] 25)):=hb.alloc hb.size _
   have hB2:Below w.heap.size w ((wr.alloc (.cells #[.int .u16 x,.int .u32 y] 25)).alloc (.cells #[] 151)):=hB1.alloc hB1.size _
   have hs2:=hB2.size
   cases hs:(Yz (x,y) Lk).isSome
   ·have HS:=hid hs
    clear hs
    go_wp2_with (first
     | (at_lookup;refine Zw Xa Tryz.underlying150 (.agg #[]) Km (hM.alloc _) (x,y) _ (XA _ _) HS rfl rfl rfl rfl ?_)
     | (at_mapUpdate;refine Ya Xa Tryz.underlying150 ((hM.alloc _).alloc _) (x,y) () rfl rfl rfl rfl rfl ?_;intro w2 hM2 hbut;have c0:w2.cell? ⟨wr.heap.size,0,none⟩=some (.int .u16 x):=(hbut.cell (by simp;omega)).trans (by simp);have c1:w2.cell? ⟨wr.heap.size,1,none⟩=some (.int .u32 y):=(hbut.cell (by simp;omega)).trans (by simp))
     | (at_builtin;go_loud (refine ZQ (((hown.alloc _).alloc _).but hbut ((hM.alloc _).alloc _) |>.alloc _) (Zb.one _ x y) ?cb ?cz rfl rfl rfl rfl ?_);rotate_right;intro v4 w4 hown4 hg4 hnil4))
    case cb=>simp;omega
    case cz=>have:=hbut.size;simp at this;simp;omega
    have hsz2:=hbut.size
    simp at hsz2
    have hown2:Zy w2 w.heap.size u4 (keys Lk):=((hown.alloc _).alloc _).but hbut ((hM.alloc _).alloc _)
    have hB4:Below w.heap.size w w4:=((hB2.trans (hbut.below (Nat.le_refl _))).alloc (by omega) _).grown hg4 (by simp;omega) (λg hg=>(World.ownsRow.lt hown g hg).1)
    have hM4:Zj w4 w.heap.size Yg eU (ins (x,y) () Lk):=(hM2.alloc _).grown (hown2.alloc _) hg4
    have hA:Gm (x,y) Lk=ins (x,y) () Lk:=by unfold Gm;rw [HS.out];rfl
    have hK:=EL HS.out
    have HA:=hid hA
    have HK:=hid hK
    clear hA hK
    go_roundw
    case rel =>
     refine ⟨k+1,ins (x,y) () Lk,by omega,by go_num,hL.out.trans (by rw [HL1.out,HA.out]),?_,?_,hB4,hM4,?_⟩
     ·rw [←HA.out,HK.out];simp;omega
     ·rw [←HA.out,HK.out]
      intro p hp
      rcases List.mem_append.1 hp with hp | hp
      ·exact HOKK.out p hp
      ·rw [List.mem_singleton.1 hp];exact HOK.out
     ·rw [←HA.out,HK.out];exact hown4
    case measure=>simp [intOf];omega
   ·have HS:=hid hs
    clear hs
    go_wp2_with (first
     | (at_lookup;refine Zw Xa Tryz.underlying150 (.agg #[]) Km (hM.alloc _) (x,y) _ (XA _ _) HS rfl rfl rfl rfl ?_))
    go_roundw
    case rel=>exact ⟨k+1,Lk,by omega,by go_num,hL.out.trans (by rw [HL1.out];unfold Gm;rw [HS.out];rfl),by omega,HOKK.out,hB2,(hM.alloc _).alloc _,(hown.alloc _).alloc _⟩
    case measure=>simp [intOf];omega
  ·have hkk:Hid (keys Lk=zcz xs):=by
    have:=hL.out
    rw [List.drop_eq_nil_of_le (by omega)] at this
    unfold zcz
    rw [this];rfl
   have hS:=zao hown hokk (by omega)
   have HS:=hid hS
   clear hS
   go_wp2_with (go_at_call 82;refine HS.out.mono ?_;rintro e w3 ⟨rfl,hown3,hg3⟩)
   go_ret
   exact ⟨_,rfl,by unfold FR;rw [←hkk.out];exact hown3,hb.grown hg3 hb.size (λg hg=>(World.ownsRow.lt hown g hg).1)⟩
open Go.ChangeMaps (setBlock)
def Zn {α β:Type} (w:World) (r t:Nat) (ke:α→Value) (ve:β→Value) (L left:List (α × β)):Prop :=
 ∃es clock since seen,w.heap[r]?=some (.map es clock)∧es.toList.map (λe=>(e.key,e.val))=L.map (λp=>(ke p.1,ve p.2))∧zdv es clock ∧
  w.heap[t]?=some (.mapIter (some r) since seen clock)∧(∀x∈es.toList,x.born<since)∧since≤clock ∧
  (es.toList.filter λe=>!seen.contains e.born).map (λe=>(e.key,e.val))=left.map (λp=>(ke p.1,ve p.2))
section
set_option linter.unusedSectionVars false
variable {α β:Type} [DecidableEq α] {ke:α→Value} {ve:β→Value} {P:Program} {K:TypeId} {w:World} {r t:Nat} {L left:List (α × β)}
theorem Zn.map (h:Zn w r t ke ve L left):Zj w r ke ve L:=by
 obtain ⟨es,clock,since,seen,h1,h2,h3,_⟩:=h
 exact ⟨es,clock,h1,h2,h3⟩
theorem Zn.lt (h:Zn w r t ke ve L left):t<w.heap.size:=by
 obtain ⟨es,clock,since,seen,_,_,_,h1,_⟩:=h
 exact (Array.getElem?_eq_some_iff.1 h1).1
theorem Zn.ne (h:Zn w r t ke ve L left):t≠r:=by
 obtain ⟨es,clock,since,seen,h0,_,_,h1,_⟩:=h
 intro e;subst e;rw [h0] at h1;cases h1
theorem Zn.same {w':World} (h:Zn w r t ke ve L left) (h1:w'.heap[r]?=w.heap[r]?) (h2:w'.heap[t]?=w.heap[t]?):Zn w' r t ke ve L left:=by
 obtain ⟨es,clock,since,seen,a1,a2,a3,a4,a5⟩:=h
 exact ⟨es,clock,since,seen,h1.trans a1,a2,a3,h2.trans a4,a5⟩
theorem Zn.mut {F:Nat→Prop} {w':World} (h:Zn w r t ke ve L left) (hm:Mut F w w') (hr:¬ F r) (ht:¬ F t):Zn w' r t ke ve L left :=
 h.same (hm.block r h.map.lt hr) (hm.block t h.lt ht)
theorem Zn.ext {w':World} (h:Zn w r t ke ve L left) (hb:Below w.heap.size w w'):Zn w' r t ke ve L left :=
 h.same (hb.block _ h.map.lt) (hb.block _ h.lt)
theorem Zj.range (h:Zj w r ke ve L) {ty K e:TypeId} (ht:P.underlying ty=some (.map K e)) :
  ∃w',(Instr.range ty (.map (some r))).run P w=.ok (.pointer (some ⟨w.heap.size,0,none⟩)) w'∧Zn w' r w.heap.size ke ve L L∧Below w.heap.size w w':=by
 have hlt:=h.lt
 obtain ⟨es,clock,hb,he,hbn⟩:=h
 refine ⟨_,run_range_map w ty K e r es clock ht hb,⟨es,clock,clock,#[],((MapKept.heap_alloc w _).2 r hlt).trans hb,he,hbn,(MapKept.heap_alloc w _).1,hbn.2,Nat.le_refl _,?_⟩,bra⟩
 rw [List.filter_eq_self.2 (by simp)];exact he
theorem zby (seen:Array Nat) (es:List MapEntry) (b:Nat):(es.filter λe=>!(seen.push b).contains e.born)=(es.filter λe=>!seen.contains e.born).filter λe=>e.born != b:=by
 rw [List.filter_filter]
 congr 1
 funext e
 by_cases hb:e.born=b <;> simp [Array.contains_push,bne,hb]
theorem zaf {s u:List MapEntry} {e:MapEntry} (hn:((s ++ e :: u).map (·.born)).Nodup):(s ++ e :: u).filter (λx=>x.born != e.born)=s ++ u:=by
 rw [List.map_append,List.map_cons,List.nodup_append] at hn
 obtain ⟨_,h2,h3⟩:=hn
 rw [List.nodup_cons] at h2
 have hs:s.filter (λx=>x.born != e.born)=s:=List.filter_eq_self.2 λx hx=>by
  have:=h3 x.born (List.mem_map_of_mem hx) e.born (by simp)
  simpa using this
 have hu:u.filter (λx=>x.born != e.born)=u:=List.filter_eq_self.2 λx hx=>by
  have:x.born≠e.born:=λhq=>h2.1 (hq ▸ List.mem_map_of_mem hx)
  simpa using this
 rw [List.filter_append,List.filter_cons,hs,hu]
 simp
theorem Zn.next (h:Zn w r t ke ve L left) (ty:TypeId) :
  (left=[]∧(Instr.next (.pointer (some ⟨t,0,none⟩)) false ty).run P w=.ok (.tuple #[.bool false]) w) ∨
  ∃(p:α × β) (s u:List (α × β)) (w':World),left=s ++ p :: u∧(Instr.next (.pointer (some ⟨t,0,none⟩)) false ty).run P w=.ok (.tuple #[.bool true,ke p.1,ve p.2]) w' ∧
   Zn w' r t ke ve L (s ++ u)∧But t w w'∧(Instr.entry (.pointer (some ⟨t,0,none⟩))).run P w'=.ok (.tuple #[ke p.1,ve p.2]) w':=by
 have hne:=h.ne
 obtain ⟨es,clock,since,seen,h1,h2,h3,h4,h5,h6,h7⟩:=h
 rcases run_next_at (P:=P) w ty t r since clock seen es clock h4 h1 h5 h6 with ⟨h0,hrun⟩ | ⟨e,he,w1,hal,hrun⟩
 ·refine .inl ⟨?_,hrun⟩
  have:(leftOf es seen).toList=[]:=by rw [←Array.length_toList] at h0;exact List.length_eq_zero_iff.1 h0
  unfold leftOf at this
  rw [Array.toList_filter] at this
  rw [this] at h7
  exact List.map_eq_nil_iff.1 h7.symm
 ·right
  unfold leftOf at he
  rw [Array.toList_filter] at he
  obtain ⟨s,u,hsu⟩:=List.append_of_mem he
  have hes:e∈es.toList:=(List.mem_filter.1 he).1
  rw [hsu] at h7
  rw [List.map_append,List.map_cons] at h7
  obtain ⟨s',q',hl,hs',hq'⟩:=List.map_eq_append_iff.1 h7.symm
  obtain ⟨p,u',rfl,hp,hu'⟩:=List.map_eq_cons_iff.1 hq'
  have hk:e.key=ke p.1:=(congrArg Prod.fst hp).symm
  have hv:e.val=ve p.2:=(congrArg Prod.snd hp).symm
  rw [hk,hv] at hrun
  have hw1:But t w w1∧w1.heap=w.heap:=by rcases hal with rfl | rfl <;> exact ⟨⟨rfl,rfl,rfl,rfl,λ_ _=>rfl⟩,rfl⟩
  have htlt:t<w1.heap.size:=by rw [hw1.2];exact (Array.getElem?_eq_some_iff.1 h4).1
  have hset:(setBlock w1 t (.mapIter (some r) since (seen.push e.born) clock)).heap[t]?=some (.mapIter (some r) since (seen.push e.born) clock):=by
   simp [setBlock,htlt]
  have hrr:(setBlock w1 t (.mapIter (some r) since (seen.push e.born) clock)).heap[r]?=some (.map es clock):=by
   rw [show (setBlock w1 t (.mapIter (some r) since (seen.push e.born) clock)).heap[r]?=w1.heap[r]? by simp [setBlock,hne],hw1.2,h1]
  refine ⟨p,s',u',_,hl,hrun,⟨es,clock,since,seen.push e.born,hrr,h2,h3,hset,h5,h6,?_⟩,?_,?_⟩
  ·rw [zby,hsu,zaf,List.map_append,List.map_append,hs',hu']
   have hn:=h3.1
   exact List.Nodup.sublist (List.Sublist.map _ (by rw [←hsu];exact List.filter_sublist)) hn
  ·refine ⟨hw1.1.os,hw1.1.tape,hw1.1.output,by simp [setBlock,hw1.2],λk hk=>?_⟩
   rw [show (setBlock w1 t (.mapIter (some r) since (seen.push e.born) clock)).heap[k]?=w1.heap[k]? by simp [setBlock,Ne.symm hk],hw1.2]
  ·rw [←hk,← hv]
   exact run_entry_at _ t r since seen es clock e hset hrr hes h3.1
theorem KZ {p:MapEntry→Bool} {f:MapEntry→MapEntry}:∀(l:List MapEntry) (j:Nat),(∀x,l[j]?=some x→p x=false∧p (f x)=false)→(l.modify j f).filter p=l.filter p
 | [],j,_=>by simp
 | x :: l,0,h=>by
  obtain ⟨h1,h2⟩:=h x rfl
  simp [List.modify_zero_cons,List.filter_cons,h1,h2]
 | x :: l,j+1,h=>by
  rw [List.modify_succ_cons,List.filter_cons,List.filter_cons,KZ l j (λy hy=>h y (by simpa using hy))]
theorem Zn.update (h:Zn w r t ke ve L left) (kk:Kz P K ke) (hinj:∀x y,ke x=ke y→x=y) {ty e:TypeId} (ht:P.underlying ty=some (.map K e)) (x:α) (v:β) (hx:(Yz x L).isSome=true) (hl:∀p∈left,p.1≠x) :
  ∃w',(Instr.mapUpdate ty (.map (some r)) (ke x) (ve v)).run P w=.ok () w'∧Zn w' r t ke ve (ins x v L) left∧But r w w':=by
 have hne:=h.ne
 obtain ⟨es,clock,since,seen,h1,h2,h3,h4,h5,h6,h7⟩:=h
 have hf:=Kq (w:=w) kk h2 x
 have hlk:=XM x L 0
 cases hq:Yk x L 0 with
 | none=>rw [hq] at hlk;rw [←hlk] at hx;simp at hx
 | some q =>
  obtain ⟨j,u⟩:=q
  have hlt:=zbK hq
  obtain ⟨_,_,⟨u',hu'⟩,hins⟩:=Xo hq
  simp only [Nat.sub_zero] at hu' hins hlt
  rw [hq] at hf
  have hj:∃e0,es[j]?=some e0∧e0.key=ke x:=by
   have:(es.toList.map (λe=>(e.key,e.val)))[j]?=some (ke x,ve u'):=by rw [h2,List.getElem?_map,hu'];rfl
   rw [List.getElem?_map] at this
   cases hej:es.toList[j]? with
   | none=>rw [hej] at this;simp at this
   | some e0 =>
    rw [hej] at this
    simp at this
    exact ⟨e0,by simpa using hej,this.1⟩
  obtain ⟨e0,hej,hek⟩:=hj
  obtain ⟨w',hrun,hM,hbut⟩:=Zj.update (L:=L) ⟨es,clock,h1,h2,h3⟩ kk ht x v
  have hw':w'={ w with heap:=w.heap.setIfInBounds r (.map (es.modify j λe=>{ e with key:=ke x,val:=ve v }) clock) }:=by
   have:(Instr.mapUpdate ty (.map (some r)) (ke x) (ve v)).run P w=.ok () { w with heap:=w.heap.setIfInBounds r (.map (es.modify j λe=>{ e with key:=ke x,val:=ve v }) clock) }:=by
    simp [Instr.mapUpdate,run_underlying ht,MapKept.run_getObj_map h1,kk.check,hf,hej,hek,Instr.keyThatStays,kk.same,MapKept.run_setObj_map _ h1,Result.andThen]
   rw [this] at hrun
   cases hrun
   rfl
  refine ⟨w',hrun,?_,hbut⟩
  have hmem:e0∈es.toList:=by
   have:es.toList[j]?=some e0:=by simpa using hej
   exact List.mem_of_getElem? this
  have hseen:seen.contains e0.born=true:=by
   cases hc:seen.contains e0.born
   ·exfalso
    have:(e0.key,e0.val)∈left.map (λp=>(ke p.1,ve p.2)):=by
     rw [←h7]
     exact List.mem_map_of_mem (f:=λe:MapEntry=>(e.key,e.val)) (List.mem_filter.2 ⟨hmem,by rw [hc];rfl⟩)
    obtain ⟨p,hp,hpe⟩:=List.mem_map.1 this
    exact hl p hp (hinj _ _ ((congrArg Prod.fst hpe).trans hek))
   ·rfl
  have hrlt:r<w.heap.size:=(Array.getElem?_eq_some_iff.1 h1).1
  obtain ⟨es',clock',g1,g2,g3⟩:=hM
  have hes:es'=(es.modify j λe=>{ e with key:=ke x,val:=ve v })∧clock'=clock:=by
   rw [hw'] at g1
   simp [hrlt] at g1
   exact ⟨g1.1.symm,g1.2.symm⟩
  obtain ⟨rfl,rfl⟩:=hes
  refine ⟨_,_,since,seen,g1,g2,g3,(hbut.block t hne).trans h4,?_,h6,?_⟩
  ·intro y hy
   simp only [Array.toList_modify] at hy
   obtain ⟨i,hi⟩:=List.mem_iff_getElem?.1 hy
   rw [List.getElem?_modify] at hi
   cases hyi:es.toList[i]? with
   | none=>rw [hyi] at hi;simp at hi
   | some z =>
    rw [hyi] at hi
    have hz:=h5 z (List.mem_of_getElem? hyi)
    have:y.born=z.born:=by
     simp at hi
     rw [←hi]
     split <;> rfl
    rw [this];exact hz
  ·rw [Array.toList_modify,KZ,h7]
   intro y hy
   have:y=e0:=by
    have h8:es.toList[j]?=some e0:=by simpa using hej
    rw [hy] at h8;exact Option.some.inj h8
   subst this
   exact ⟨by simp only [hseen];rfl,by simp only [hseen];rfl⟩
end
section
variable {α β:Type} [DecidableEq α] {ke:α→Value} {ve:β→Value} {P:Program} {w:World} {ops:Array Oper} {rest:List Oper} {o:Oper} {a:Act} {Q:Exit→Act→World→Prop} {r t:Nat} {L left:List (α × β)}
theorem Yo (hM:Zj w r ke ve L) {ty K e:TypeId} (ht:P.underlying ty=some (.map K e)) {m:Operand} (hg:o.guard=none) (hop:o.op=Op.range ty m) (hm:a.eval m=.map (some r))
  (hK:∀w',Zn w' r w.heap.size ke ve L L→Below w.heap.size w w'→wpList P ops Q rest (a.put o.dst (.pointer (some ⟨w.heap.size,0,none⟩))) w'):wpList P ops Q (o :: rest) a w:=by
 refine wpList_plain hg λK' hK'=>?_
 obtain ⟨w',hrun,r1,r2⟩:=hM.range ht
 unfold Oper.wp
 simp [execOp,hop,hm,hrun,Result.andThen]
 exact hK' _ _ (hK w' r1 r2)
theorem Yh (h:Zn w r t ke ve L left) {it:Operand} (hg:o.guard=none) (hop:o.op=Op.next it false) (hit:a.eval it=.pointer (some ⟨t,0,none⟩))
  (hDone:Hid (left=[])→wpList P ops Q rest (a.put o.dst (.tuple #[.bool false])) w)
  (hMore:∀(p:α × β) (s u:List (α × β)) (w':World),Hid (left=s ++ p :: u)→Zn w' r t ke ve L (s ++ u)→But t w w'→(Instr.entry (.pointer (some ⟨t,0,none⟩))).run P w'=.ok (.tuple #[ke p.1,ve p.2]) w' →
   wpList P ops Q rest (a.put o.dst (.tuple #[.bool true,ke p.1,ve p.2])) w'):wpList P ops Q (o :: rest) a w:=by
 refine wpList_plain hg λK' hK'=>?_
 unfold Oper.wp
 rcases h.next (P:=P) o.type with ⟨hl,hrun⟩ | ⟨p,s,u,w',hl,hrun,hR,hB,hE⟩
 ·simp [execOp,hop,hit,hrun,Result.andThen]
  exact hK' _ _ (hDone hl)
 ·simp [execOp,hop,hit,hrun,Result.andThen]
  exact hK' _ _ (hMore p s u w' hl hR hB hE)
end
theorem VR:∀(xs:List Pid) (L:List (Pid × Unit)),(∀x∈xs,x ∉ keys L)→xs.Nodup→keys (Zx L xs)=keys L ++ xs
 | [],L,_,_=>by simp [Zx]
 | p :: l,L,h,hn=>by
  obtain ⟨h1,h2⟩:=List.nodup_cons.1 hn
  have e:keys (Gm p L)=keys L ++ [p]:=by rw [Xn (h p (List.mem_cons_self ..))];simp [keys]
  unfold Zx
  rw [VR l (Gm p L) (λx hx=>?_) h2,e]
  ·simp
  ·rw [e]
   intro hm
   rcases List.mem_append.1 hm with hm | hm
   ·exact h x (List.mem_cons_of_mem _ hx) hm
   ·rw [List.mem_singleton.1 hm] at hx;exact h1 hx
theorem zbx {xs:List Pid} (h:xs.Nodup):zcz xs=xs:=by
 unfold zcz;rw [VR xs [] (by simp [keys]) h];simp [keys]
theorem VS:∀(xs:List Pid) (L:List (Pid × Unit)),(keys L).Nodup→(keys (Zx L xs)).Nodup
 | [],L,h=>h
 | p :: l,L,h=>by
  unfold Zx
  refine VS l _ ?_
  by_cases hp:p∈keys L
  ·rw [VG hp];exact h
  ·rw [Xn hp]
   simp only [keys,List.map_append,List.map_cons,List.map_nil]
   rw [List.nodup_append]
   refine ⟨h,by simp,?_⟩
   intro a ha b hb e
   simp at hb
   subst e;subst hb;exact hp ha
theorem KB (xs:List Pid):(YS xs).Pairwise λx y=>(!(ahead y x))=true :=
 List.pairwise_mergeSort (λa b c h1 h2=>by simp [ahead] at *;omega) (λa b=>by simp [ahead];omega) xs
theorem Xj (xs:List Pid):(YS xs).Perm xs:=List.mergeSort_perm _ _
theorem Kb {p:Pid} {xs:List Pid}:p∈YS xs↔p∈xs:=(Xj xs).mem_iff
theorem JA {xs ys:List Pid} (h:xs.Perm ys) (hok:∀p∈xs,ok p):YS xs=YS ys:=by
 refine List.Perm.eq_of_pairwise (le:=λx y=>(!(ahead y x))=true) ?_ (KB _) (KB _) ((Xj xs).trans (h.trans (Xj ys).symm))
 intro a b ha hb h1 h2
 simp [ahead] at h1 h2
 exact zag (hok a (Kb.1 ha)) (hok b (h.mem_iff.2 (Kb.1 hb))) (by omega)
theorem KT {xs:List Pid} (h:xs.Nodup):FR xs=YS xs:=by unfold FR;rw [zbx h]
theorem Zy.mono {w:World} {b b':Nat} {v:Value} {xs:List Pid} (h:Zy w b v xs) (hb:b'≤b):Zy w b' v xs:=by
 refine ⟨h.1,?_⟩
 rcases h.2 with hn | ⟨g,cap,cur,rfl,hbb,rest⟩
 ·exact .inl hn
 ·exact .inr ⟨g,cap,cur,rfl,Nat.le_trans hb hbb,rest⟩
theorem Zn.left_eq {w:World} {r t:Nat} {α β:Type} {ke:α→Value} {ve:β→Value} {L left:List (α × β)} (h:Zn w r t ke ve L left):w.rangeLeft r t=left.length:=by
 obtain ⟨es,clock,since,seen,h1,_,_,h4,_,_,h7⟩:=h
 have:=congrArg List.length h7
 simp only [List.length_map] at this
 unfold World.rangeLeft
 rw [h1,h4]
 unfold leftOf
 rw [←this]
 show (Array.filter (λe=>!seen.contains e.born) es).size=_
 rw [←Array.length_toList,Array.toList_filter]
theorem But.below' {r B:Nat} {w w' w0:World} (h:Below B w0 w) (hb:But r w w') (hr:B≤r):Below B w0 w':=h.trans (hb.below hr)
theorem Zy.butT {w w':World} {base t:Nat} {v:Value} {xs:List Pid} (h:Zy w base v xs) (hb:But t w w') (ht:some t≠v.ownBlock):Zy w' base v xs:=by
 refine ⟨h.1,?_⟩
 rcases h.2 with hn | ⟨g,cap,cur,rfl,hbb,hgg,rest⟩
 ·exact .inl hn
 ·exact .inr ⟨g,cap,cur,rfl,hbb,(hb.block g (λe=>ht (by simp [Value.ownBlock,e]))).trans hgg,rest⟩
theorem Zy.ne_iter {w:World} {base:Nat} {v:Value} {xs:List Pid} (h:Zy w base v xs) {r t:Nat} {α β:Type} {ke:α→Value} {ve:β→Value} {L left:List (α × β)} (hr:Zn w r t ke ve L left):some t≠v.ownBlock:=by
 obtain ⟨es,clock,since,seen,_,_,_,h4,_⟩:=hr
 rcases h.2 with ⟨rfl,_⟩ | ⟨g,cap,cur,rfl,hbb,hgg,rest⟩
 ·simp [Value.ownBlock]
 ·simp only [Value.ownBlock,ne_eq,Option.some.injEq]
  intro e;subst e;rw [h4] at hgg;cases hgg
theorem Zn.grown {w w':World} {r t:Nat} {α β:Type} [DecidableEq α] {ke:α→Value} {ve:β→Value} {L left:List (α × β)} (hR:Zn w r t ke ve L left) {base:Nat} {v:Value} {xs:List Pid} (h:Zy w base v xs) (hg:w.grownBy w' v.ownBlock):Zn w' r t ke ve L left:=by
 refine hR.same (hg.block r hR.map.lt ?_) (hg.block t hR.lt (h.ne_iter hR))
 obtain ⟨es,clock,since,seen,h1,_⟩:=hR
 exact h.ne_map h1
theorem Zn.alloc {w:World} {r t:Nat} {α β:Type} [DecidableEq α] {ke:α→Value} {ve:β→Value} {L left:List (α × β)} (hR:Zn w r t ke ve L left) (o:Obj):Zn (w.alloc o) r t ke ve L left:=hR.ext (bra)
set_option maxRecDepth 100000 in
set_option maxHeartbeats 1600000 in
theorem Qm (s r:Nat) (L:List (Pid × Unit)) (w:World) (hS:ZP w s r L) (hnd:(keys L).Nodup) (hok:∀p∈keys L,ok p) (hn:L.length≤549755813888) :
  Calls Tryz.prog 262 #[.pointer (some ⟨s,0,none⟩)] w λe w'=>∃v,e=.returned v∧Zy w' w.heap.size v (YS (keys L))∧Below w.heap.size w w':=by
 have h0:=hS.box
 have hM:=hS.map
 have HND:=hid hnd
 have HOK:=hid hok
 clear hnd hok
 go_enter Tryz.func262,Tryz.ntmps262
 go_wp2_with (at_range;refine Yo hM Tryz.underlying150 rfl rfl rfl ?_;intro w0 hR0 hb0)
 go_frame
 have hs0:=hb0.size
 have ht0:=hR0.lt
 go_loopw [3] (λv wr=>∃(got:List Pid) (left:List (Pid × Unit)),Zn wr r w.heap.size Yg eU L left∧Zy wr w.heap.size v got∧Hid ((got ++ keys left).Perm (keys L))∧got.length+left.length=L.length∧Below w.heap.size w wr∧w.heap.size<wr.heap.size) (λ_ wr=>wr.rangeLeft r w.heap.size)
 case atStart=>exact ⟨[],L,hR0,Zy.nil _ _,(show ([] ++ keys L).Perm (keys L) from List.Perm.refl _),by simp,hb0,ht0⟩
 case round =>
  obtain ⟨got,left,hR,hown,hP,hlen,hb,hlt⟩:=hrel
  have HLEN:=hid hlen
  have hgl:got.length≤L.length:=by omega
  have hlm:=hR.left_eq
  have HLM:=hid hlm
  clear hlen hlm
  go_wp2_with (at_next;refine Yh hR rfl rfl rfl ?_ ?_)
  ·intro hl
   have hgp:got.Perm (keys L):=by have:=hP.out;rw [hl.out] at this;simpa [keys] using this
   have hgn:got.Nodup:=hgp.symm.nodup HND.out
   have hgo:∀p∈got,ok p:=λp hp=>HOK.out p (hgp.mem_iff.1 hp)
   have hsq:FR got=YS (keys L):=by rw [KT hgn];exact JA hgp hgo
   have HSQ:=hid hsq
   have HGO:=hid hgo
   obtain ⟨a,c,rfl,hrow,-⟩:=hown.row
   clear hgp hgn hsq hgo
   go_wp2_with (go_at_call 35;refine (Qc a c got _ (by omega) hrow HGO.out).mono ?_;rintro e w3 ⟨v,rfl,hown3,hb3⟩)
   go_ret
   exact ⟨_,rfl,by rw [←HSQ.out];exact hown3.mono (by omega),hb.trans (hb3.mono (by omega))⟩
  ·intro x y u0 s1 s2 w1 hl hR1 hbut hen
   have hown1:=hown.butT hbut (hown.ne_iter hR)
   have HSZ:=hid hbut.size
   have hone:Zb ((w1.alloc (.cells #[.int .u16 x,.int .u32 y] 25)).alloc (.cells #[.int .u16 x,.int .u32 y] 25)) (some ⟨w1.heap.size+1,0,none⟩) [(x,y)]:=Zb.one' _ (by simp) x y
   go_wp2_with (at_builtin;refine ZQ ((hown1.alloc _).alloc _) hone ?cb ?cz rfl rfl rfl rfl ?_;rotate_right;intro v4 w4 hown4 hg4 hnil4)
   case cb=>simp;omega
   case cz=>have:=HSZ.out;simp;omega
   have hsz1:=HSZ.out
   have hB4:Below w.heap.size w w4:=(((But.below' hb hbut (Nat.le_refl _)).alloc (by omega) _).alloc (by simp;omega) _).grown hg4 (by simp;omega) (λg hg=>(World.ownsRow.lt hown g hg).1)
   have hR4:=((hR1.alloc (.cells #[.int .u16 x,.int .u32 y] 25)).alloc (.cells #[.int .u16 x,.int .u32 y] 25)).grown ((hown1.alloc _).alloc _) hg4
   have hlt4:=hR4.lt
   have hlm4:=hR4.left_eq
   have HLM4:=hid hlm4
   have hlq:left.length=s1.length+1+s2.length:=by rw [hl.out];simp;omega
   clear hlm4
   go_roundw
   case rel =>
    refine ⟨got ++ [(x,y)],s1 ++ s2,hR4,hown4,hid ?_,by have:=HLEN.out;simp;omega,hB4,hlt4⟩
    refine List.Perm.trans ?_ hP.out
    rw [hl.out]
    simp only [keys,List.map_append,List.map_cons,List.append_assoc,List.cons_append,List.nil_append]
    refine List.Perm.append_left _ ?_
    exact List.perm_middle.symm
   case measure=>rw [HLM4.out,HLM.out];simp;omega
structure InNew (w w':World) (V:Zs) (i:Nat) (b m1 m2:Nat) (am:Option Addr) (cm:Nat):Prop where
 lt:w.heap.size≤b
 lt1:w.heap.size≤m1
 lt2:w.heap.size≤m2
 below:Below w.heap.size w w'
 box:Zc w' b 199 [.int .u64 i,.slice am V.ms.length cm,.map (some m1),.map (some m2),.int .i64 0]
 row:Zb w' am V.ms
 map1:Zj w' m1 Yg n64 []
 map2:∀{α β:Type} [DecidableEq α] (ke:α→Value) (ve:β→Value),Zj w' m2 ke ve ([]:List (α × β))
 ne:m1≠m2
theorem Zd {a w:World} (h:Below a.heap.size a w) (o:Obj):Below a.heap.size a (w.alloc o):=h.alloc h.size o
theorem Zh {a x b:World} (h:Below a.heap.size a x) (h2:Below x.heap.size x b):Below a.heap.size a b:=h.trans (h2.mono h.size)
theorem VX {α β:Type} [DecidableEq α] {ke:α→Value} {ve:β→Value} {X w':World} {r:Nat} (hr:r=X.heap.size) (hb:Below (X.alloc (.map #[] 0)).heap.size (X.alloc (.map #[] 0)) w'):Zj w' r ke ve ([]:List (α × β)):=(Zj.made' X hr).ext hb
theorem zdE (w:World):(zeroValue 32).run Tryz.prog w=.ok (.int .u64 0) w:=by kernel_rfl
theorem Zj.none64 {w:World} {m:Nat} (h:Zj w m Yg n64 []) (x y:Int):(Instr.lookup 196 (.map (some m)) (.agg #[.int .u16 x,.int .u32 y]) false).run Tryz.prog w=.ok (.int .u64 0) w:=by
 have:=h.lookup_no Xa Tryz.underlying196 (zdE w) (x,y)
 exact this
theorem zaS {V:Zs} {i:Nat} {A:VAd} {w:World} {b m1 m2:Nat} (hi:V.id=(i:Int)) (hB:Zc w b 277 (vcl V i A ++ [.map (some m1),.map (some m2)])) (hV:Zt w A.am A.al A.ad V) (hM:Zj w m1 Yg n64 []) (x y:Int) (hp:(x,y)∈V.ms) :
  Calls Tryz.prog 132 #[.pointer (some ⟨b,0,none⟩),.agg #[.int .u16 x,.int .u32 y],.int .u64 0] w λe w'=>e=.returned (.bool false)∧Below w.heap.size w w':=by
 obtain ⟨am,al,ad,cm,cl,cd⟩:=A
 obtain ⟨n1,e1⟩:∃q,V.ms.length=q:=⟨_,rfl⟩
 obtain ⟨n2,e2⟩:∃q,V.ls.length=q:=⟨_,rfl⟩
 obtain ⟨n3,e3⟩:∃q,V.ds.length=q:=⟨_,rfl⟩
 have hB:Zc w b 277 [.int .u64 i,.slice am n1 cm,.slice al n2 cl,.slice ad n3 cd,.map (some m1),.map (some m2)]:=by
  have:=hB;unfold vcl at this;rw [e1,e2,e3] at this;exact this
 obtain ⟨W1,hW1⟩:∃W1,w.alloc (.cells #[.int .u16 x,.int .u32 y] 25)=W1:=⟨_,rfl⟩
 have hb1:Below w.heap.size w W1:=by rw [←hW1];exact bra
 have k0:W1.cell? ⟨w.heap.size,0,none⟩=some (.int .u16 x):=by rw [←hW1];simp
 have k1:W1.cell? ⟨w.heap.size,1,none⟩=some (.int .u32 y):=by rw [←hW1];simp
 have hB1:=hB.ext hb1
 have hM1:=hM.ext hb1
 have hV1:=hV.ext hb1
 have c0:=hB1.cell (j:=0) rfl
 have c1:=hB1.cell (j:=1) rfl
 have c2:=hB1.cell (j:=2) rfl
 have c3:=hB1.cell (j:=3) rfl
 have c4:=hB1.cell (j:=4) rfl
 have hq:decide ((x,y)∈V.ms)=true:=decide_eq_true hp
 have CH:Hid (∀W,Below W1.heap.size W1 W→Calls Tryz.prog 27 #[.agg #[.int .u64 i,.slice am n1 cm,.slice al n2 cl,.slice ad n3 cd],.agg #[.int .u16 x,.int .u32 y]] W λe w'=>e=.returned (.bool true)∧Below W1.heap.size W1 w'):=hid λW h=>by
  have:=XO V am al ad cm cl cd x y W (hV1.ext h)
  rw [hq,e1,e2,e3,hi] at this
  exact this.mono λe w' ⟨h1,h2⟩=>⟨h1,h.trans (h2.mono h.size)⟩
 have HL:Hid (∀W,Below W1.heap.size W1 W→(Instr.lookup 196 (.map (some m1)) (.agg #[.int .u16 x,.int .u32 y]) false).run Tryz.prog W=.ok (.int .u64 0) W):=hid λW h=>(hM1.ext h).none64 x y
 have HS:Hid (∀W,Below W1.heap.size W1 W→Below W1.heap.size W1 W∧W.cell? ⟨w.heap.size,0,none⟩=some (.int .u16 x)∧W.cell? ⟨w.heap.size,1,none⟩=some (.int .u32 y)∧W.cell? ⟨b,0,none⟩=some (.int .u64 i)∧W.cell? ⟨b,1,none⟩=some (.slice am n1 cm)∧W.cell? ⟨b,2,none⟩=some (.slice al n2 cl)∧W.cell? ⟨b,3,none⟩=some (.slice ad n3 cd)∧W.cell? ⟨b,4,none⟩=some (.map (some m1))∧(Instr.lookup 196 (.map (some m1)) (.agg #[.int .u16 x,.int .u32 y]) false).run Tryz.prog W=.ok (.int .u64 0) W):=hid λW h=>⟨h,Zk k0 h,Zk k1 h,Zk c0 h,Zk c1 h,Zk c2 h,Zk c3 h,Zk c4 h,HL.out W h⟩
 have H0:Below W1.heap.size W1 W1.drew:=(Below.refl _ _).drew
 have HB1:=hid hb1
 clear hB hB1 hM hM1 hV hV1 e1 e2 e3 hi c0 c1 c2 c3 c4 k0 k1 hb1 hq HL hp
 go_enter Tryz.func132,Tryz.ntmps132
 go_wp2_with fail
 clear hW1
 (
  go_region_held3 (λW=>Below W1.heap.size W1 W∧W.cell? ⟨w.heap.size,0,none⟩=some (.int .u16 x)∧W.cell? ⟨w.heap.size,1,none⟩=some (.int .u32 y)∧W.cell? ⟨b,0,none⟩=some (.int .u64 i)∧W.cell? ⟨b,1,none⟩=some (.slice am n1 cm)∧W.cell? ⟨b,2,none⟩=some (.slice al n2 cl)∧W.cell? ⟨b,3,none⟩=some (.slice ad n3 cd)∧W.cell? ⟨b,4,none⟩=some (.map (some m1))∧(Instr.lookup 196 (.map (some m1)) (.agg #[.int .u16 x,.int .u32 y]) false).run Tryz.prog W=.ok (.int .u64 0) W) (first | exact HS.out _ H0 | exact HS.out _ (by assumption)) (first | ((go_at_call 27;refine (CH.out _ (by first | exact H0 | assumption)).mono ?_;rintro e w6 ⟨rfl,hb6⟩))))
 all_goals (
  go_wp2
  go_ret
  exact ⟨rfl,HB1.out.trans (hb6.mono HB1.out.size)⟩)
theorem FB {w:World} {b:Nat} {v0 v1 v2 v3 v4 v5 v6 v7 v8 v9 v10 v11 v12 v13:Value} (hB:Zc w b 255 [v0,v1,v2,v3,v4,v5,v6,v7,v8,v9,v10,v11,v12,v13]) :
  Calls Tryz.prog 96 #[.pointer (some ⟨b,0,none⟩)] w λe w'=>e=.returned (.tuple #[])∧Mut (λk=>k=b) w w'∧Zc w' b 255 [v0,v1,v2,v3,v4,.int .i64 0,v6,v7,v8,v9,v10,.pointer none,v12,v13]:=by
 have c5:=hB.cell (j:=5) rfl
 have c11:=hB.cell (j:=11) rfl
 have fz:=hB.frozen
 have HB:=hid hB
 clear hB
 go_enter Tryz.func96,Tryz.ntmps96
 go_wp2
 exact bodyPost_end (results_none rfl _ _ _) rfl ⟨rfl,Zf (G:=λk=>k=b) (Zf (G:=λk=>k=b) (Mut.refl _ _) b _ _ rfl) b _ _ rfl,(HB.out.set (j:=5) (v:=.int .i64 0)).set (j:=11) (v:=.pointer none)⟩
theorem zeh (b0 b1 b2 c0 c1 c2:Int) (h:b0≠c0) (w:World):Calls Tryz.prog 318 #[.agg #[.int .u32 b0,.int .u16 b1,.int .u32 b2],.agg #[.int .u32 c0,.int .u16 c1,.int .u32 c2]] w λe w'=>e=.returned (.bool (decide (b0<c0)))∧Below w.heap.size w w':=by
 have g1:(b0 != c0)=true:=by rw [bne_iff_ne];exact h
 have g2:(b0 == c0)=false:=by rw [beq_eq_false_iff_ne];exact h
 clear h
 go_enter Tryz.func318,Tryz.ntmps318
 go_wp2
 go_ret
 exact ⟨rfl,(bra).alloc (by simp) _⟩
theorem zc0 (p:Pid):ahead p p=false:=by unfold ahead;simp
theorem Gd (b0 b1 b2:Int) (h:ok (b1,b2)) (w:World):Calls Tryz.prog 318 #[.agg #[.int .u32 b0,.int .u16 b1,.int .u32 b2],.agg #[.int .u32 b0,.int .u16 b1,.int .u32 b2]] w λe w'=>e=.returned (.bool false)∧Below w.heap.size w w':=by
 have C:=λw=>Es b1 b2 b1 b2 w h h
 rw [zc0] at C
 go_enter Tryz.func318,Tryz.ntmps318
 go_wp2_with fail
 refine (C _).mono ?_
 rintro e w2 ⟨rfl,hb⟩
 clear C
 go_wp2_with fail
 go_ret
 exact ⟨rfl,((bra).alloc (by simp) _).trans (hb.below.mono (by simp;omega))⟩
theorem zaW (a b c:Value):(Tryz.prog.info? 124).map (·.size)=some [a,b,c].length:=by kernel_rfl
theorem zbH {W:World} {n:Nat} (h:n=W.heap.size) (a b c:Value):(W.alloc (.cells #[a,b,c] 124)).rangeAt n 0 [a,b,c]:=λj v hj=>by
 rw [Nat.zero_add,h]
 exact (Zc.made W 124 [a,b,c]).cell hj
theorem Eo (b1 b2 x y:Int) (w:World):Calls Tryz.prog 194 #[.agg #[.int .u32 0,.int .u16 b1,.int .u32 b2],.agg #[.int .u16 x,.int .u32 y]] w λe w'=>e=.returned (.tuple #[.agg #[.int .u32 1,.int .u16 x,.int .u32 y],.int .i64 0])∧Below w.heap.size w w':=by
 go_enter Tryz.func194,Tryz.ntmps194
 go_wp2
 exact bodyPost_ret (v:=.tuple #[.agg ([.int .u32 1,.int .u16 x,.int .u32 y]:List Value).toArray,.int .i64 0]) (ZF (p:=4) (q:=5) (ty:=124) rfl _ _ (w.heap.size+1+1) [.int .u32 1,.int .u16 x,.int .u32 y] _ rfl (zbH (by simp) _ _ _) Tryz.underlying124 rfl (zaW _ _ _)) rfl ⟨rfl,((bra).alloc (by simp) _).alloc (by simp;omega) _⟩
abbrev prC (x y s0 s1 s2 ph:Int) (ld:Value) (sl b0 b1 b2:Int) (val:Value) (m0 m1:Int):List Value:=[.int .u16 x,.int .u32 y,.int .u32 s0,.int .u16 s1,.int .u32 s2,.int .i64 ph,ld,.int .u64 sl,.int .u32 b0,.int .u16 b1,.int .u32 b2,val,.int .u64 m0,.int .u64 m1]
section
variable {w:World} {b:Nat} {x y s0 s1 s2 ph sl b0 b1 b2 m0 m1:Int} {ld val:Value}
theorem Jd (hB:Zc w b 255 (prC x y s0 s1 s2 ph ld sl b0 b1 b2 val m0 m1)):Calls Tryz.prog 97 #[.pointer (some ⟨b,0,none⟩)] w λe w'=>e=.returned (.int .i64 ph)∧w'=w:=by
 have c:=hB.cell (j:=5) rfl
 clear hB
 go_enter Tryz.func97,Tryz.ntmps97
 go_wp2
 go_ret
 exact ⟨rfl,rfl⟩
theorem Kl (hB:Zc w b 255 (prC x y s0 s1 s2 ph ld sl b0 b1 b2 val m0 m1)):Calls Tryz.prog 98 #[.pointer (some ⟨b,0,none⟩)] w λe w'=>e=.returned (.int .u64 sl)∧w'=w:=by
 have c:=hB.cell (j:=7) rfl
 clear hB
 go_enter Tryz.func98,Tryz.ntmps98
 go_wp2
 go_ret
 exact ⟨rfl,rfl⟩
theorem QD (hB:Zc w b 255 (prC x y s0 s1 s2 ph ld sl b0 b1 b2 val m0 m1)):Calls Tryz.prog 101 #[.pointer (some ⟨b,0,none⟩)] w λe w'=>e=.returned (.agg #[.int .u32 b0,.int .u16 b1,.int .u32 b2])∧Below w.heap.size w w':=by
 have c8:=hB.cell (j:=8) rfl
 have c9:=hB.cell (j:=9) rfl
 have c10:=hB.cell (j:=10) rfl
 have hlt:=hB.lt
 clear hB
 go_enter Tryz.func101,Tryz.ntmps101
 go_wp2
 exact bodyPost_ret (v:=.agg #[.int .u32 b0,.int .u16 b1,.int .u32 b2]) (Yv (b:=w.heap.size) (o:=0) (cs:=[.int .u32 b0,.int .u16 b1,.int .u32 b2]) rfl _ _ rfl (zbH rfl _ _ _) Tryz.underlying124 rfl (zaW _ _ _)) rfl ⟨rfl,bra⟩
theorem GJ (hB:Zc w b 255 (prC x y s0 s1 s2 ph ld sl b0 b1 b2 val m0 m1)) (hk:ok (s1,s2)):Calls Tryz.prog 244 #[.pointer (some ⟨b,0,none⟩),.agg #[.int .u32 s0,.int .u16 s1,.int .u32 s2]] w λe w'=>e=.returned (.tuple #[])∧Below w.heap.size w w':=by
 have C:∀{w0:World} (U:YB w0),Calls Tryz.prog 318 #[.agg #[.int .u32 s0,.int .u16 s1,.int .u32 s2],.agg #[.int .u32 s0,.int .u16 s1,.int .u32 s2]] U.W λe w'=>e=.returned (.bool false)∧∃U':YB w0,w'=U'.W:=λU=>ZN (Gd s0 s1 s2 hk U.W) rfl
 obtain ⟨W1,hW1⟩:∃W1,w.alloc (.cells #[.int .u32 s0,.int .u16 s1,.int .u32 s2] 124)=W1:=⟨_,rfl⟩
 have hb1:Below w.heap.size w W1:=by rw [←hW1];exact bra
 have hz:w.heap.size≤W1.heap.size:=hb1.size
 have k0:=Za (show W1.cell? ⟨w.heap.size,0,none⟩=some (.int .u32 s0) by rw [←hW1];simp)
 have k1:=Za (show W1.cell? ⟨w.heap.size,1,none⟩=some (.int .u16 s1) by rw [←hW1];simp)
 have k2:=Za (show W1.cell? ⟨w.heap.size,2,none⟩=some (.int .u32 s2) by rw [←hW1];simp)
 have q2:=Za ((hB.ext hb1).cell (j:=2) rfl)
 have q3:=Za ((hB.ext hb1).cell (j:=3) rfl)
 have q4:=Za ((hB.ext hb1).cell (j:=4) rfl)
 have HB1:=hid hb1
 clear hB hk hb1
 go_enter Tryz.func244,Tryz.ntmps244
 go_wp2_with fail
 try rw [hW1]
 clear hW1
 refine Ze (w:=W1) (Below.refl _ _) (by kernel_rfl) (by kernel_rfl) ?_
 repeat (go_big_quiet_step (with_reducible exact C _))
 refine wpQuiet_nil ?_
 rintro w9 ⟨⟨_,hb9⟩,rfl⟩
 go_wp2_with fail
 exact bodyPost_end (results_none rfl _ _ _) rfl ⟨rfl,HB1.out.trans (hb9.mono hz)⟩
theorem infoCmdL (v0 v1 v2 v3 v4 v5 v6 v7 v8 v9:Value):(Tryz.prog.info? 126).map (·.size)=some [v0,v1,v2,v3,v4,v5,v6,v7,v8,v9].length:=by kernel_rfl
abbrev cmd0:List Value:=[.int .i64 0,.int .u16 0,.int .u32 0,.int .u64 0,.int .u64 0,.slice none 0 0,.int .u64 0,.slice none 0 0,.slice none 0 0,.slice none 0 0]
theorem VJ (hB:Zc w b 255 (prC x y s0 s1 s2 ph ld sl b0 b1 b2 (.pointer none) m0 m1)):Calls Tryz.prog 103 #[.pointer (some ⟨b,0,none⟩)] w λe w'=>e=.returned (.tuple #[.agg cmd0.toArray,.bool false])∧Below w.heap.size w w':=by
 have c11:=hB.cell (j:=11) rfl
 have hlt:=hB.lt
 clear hB
 go_enter Tryz.func103,Tryz.ntmps103
 go_wp2
 exact bodyPost_ret (v:=.tuple #[.agg cmd0.toArray,.bool false]) (ZF (p:=2) (q:=3) (ty:=126) rfl _ _ w.heap.size cmd0 _ rfl (λj v hj=>by rw [Nat.zero_add];exact (Zc.made w 126 cmd0).cell hj) Tryz.underlying126 rfl (infoCmdL _ _ _ _ _ _ _ _ _ _)) rfl ⟨rfl,bra⟩
theorem EP {a:Option Addr} {c:Nat} (hB:Zc w b 255 (prC x y s0 s1 s2 ph (.slice a 1 c) sl b0 b1 b2 val 1 0)):Calls Tryz.prog 322 #[.pointer (some ⟨b,0,none⟩)] w λe w'=>e=.returned (.bool true)∧Below w.heap.size w w':=by
 have C:∀{w0:World} (U:YB w0),Calls Tryz.prog 339 #[.agg #[.int .u64 1,.int .u64 0],.int .i64 1] U.W λe w'=>e=.returned (.bool true)∧∃U':YB w0,w'=U'.W:=λU=>ZN (Fh U.W) rfl
 have q6:=Za (hB.cell (j:=6) rfl)
 have q12:=Za (hB.cell (j:=12) rfl)
 have q13:=Za (hB.cell (j:=13) rfl)
 clear hB
 go_enter Tryz.func322,Tryz.ntmps322
 go_wp2_with fail
 refine Ze (w:=w) (Below.refl _ _) (by kernel_rfl) (by kernel_rfl) ?_
 repeat (go_big_quiet_step (with_reducible exact C _))
 refine wpQuiet_nil ?_
 rintro w9 ⟨⟨_,hb9⟩,rfl⟩
 go_wp2_with fail
 go_ret
 exact ⟨rfl,hb9⟩
end
set_option maxRecDepth 100000 in
set_option maxHeartbeats 1600000 in
theorem GY {w:World} {b:Nat} {x y s0 s1 s2 ph sl b0 b1 b2:Int} {val:Value} {a:Option Addr} {c:Nat} {p q:Int} (hB:Zc w b 255 (prC x y s0 s1 s2 ph (.slice a 1 c) sl b0 b1 b2 val 0 0)) (hph:ph=1∨ph=3) (hr:Zb w a [(p,q)]) :
  Calls Tryz.prog 102 #[.pointer (some ⟨b,0,none⟩)] w λe w'=>∃g cc,e=.returned (.slice g 1 cc)∧Zb w' g [(p,q)]∧Below w.heap.size w w':=by
 obtain ⟨g0,off,rfl,hlt,hcell⟩:=hr.get (by simp)
 obtain ⟨k0,k1⟩:=hcell 0 (by simp)
 simp only [Nat.zero_mul,Nat.add_zero,List.getElem_cons_zero] at k0 k1
 have c5:=hB.cell (j:=5) rfl
 have c6:=hB.cell (j:=6) rfl
 have c12:=hB.cell (j:=12) rfl
 have c13:=hB.cell (j:=13) rfl
 have CM:=λw=>JR w
 have hbl:=hB.lt
 clear hB hr hcell
 have hfin:∀(W:World),Below w.heap.size w W→W.cell? ⟨b,12,none⟩=some (.int .u64 0)∧W.cell? ⟨b,13,none⟩=some (.int .u64 0)∧W.cell? ⟨g0,off,none⟩=some (.int .u16 p)∧W.cell? ⟨g0,off+1,none⟩=some (.int .u32 q):=λW h=>⟨Zk c12 h,Zk c13 h,Zk k0 h,Zk k1 h⟩
 have HF:=hid hfin
 clear hfin
 rcases hph with rfl | rfl
 all_goals
  go_enter Tryz.func102,Tryz.ntmps102
  go_wp2_with fail
  go_loopw [3,27] (λv i wr=>(v=.slice none 0 0∧i=.int .i64 0∧wr=w)∨(i=.int .i64 1∧Hid (Zy wr w.heap.size v [(p,q)])∧Hid (Below w.heap.size w wr))) (λ_ i _=>1 - (intOf i).toNat)
  case atStart=>exact .inl ⟨rfl,rfl,rfl⟩
  case round =>
   rcases hrel with ⟨rfl,rfl,rfl⟩ | ⟨rfl,HO,HB⟩
   ·go_wp2_with fail
    obtain ⟨W1,hW1⟩:∃W1,wr.alloc (.cells #[.int .u16 p,.int .u32 q] 25)=W1:=⟨_,rfl⟩
    have hb1:Below wr.heap.size wr W1:=by rw [←hW1];exact bra
    have x1:Zc W1 wr.heap.size 25 [.int .u16 p,.int .u32 q]:=by rw [←hW1];exact Zc.made _ _ _
    rw [hW1]
    refine (CM _).mono ?_
    rintro e w3 ⟨rfl,hb3⟩
    have q0:=(x1.ext hb3).cell (j:=0) rfl
    have q1:=(x1.ext hb3).cell (j:=1) rfl
    have HB3:=hid (hb1.trans (hb3.mono hb1.size))
    clear hW1 hb1 x1 hb3 CM c5 c6 c12 c13 k0 k1
    go_wp2_with (at_builtin;refine ZQ (((Zy.nil w3 wr.heap.size)).alloc _) (Zb.one _ p q) ?cb ?cz rfl rfl rfl rfl ?_;rotate_right;intro v4 w4 hown4 hg4 hnil4)
    case cb=>simp
    case cz=>have:=HB3.out.size;simp;omega
    have HB4:Hid (Below wr.heap.size wr w4):=hid (HB3.out.trans (((bra).grown hg4 (by simp) (λg hg=>by cases hg)).mono HB3.out.size))
    have HO4:Hid (Zy w4 wr.heap.size v4 [(p,q)]):=hid hown4
    clear hown4 hg4 hnil4 q0 q1
    go_wp2_with fail
    go_roundw
    case rel=>exact .inr ⟨rfl,HO4,HB4⟩
    case measure=>simp [intOf]
   ·obtain ⟨ga,gc,rfl,hrow,-⟩:=HO.out.row
    clear c5 c6 c12 c13 k0 k1
    go_wp2_with fail
    go_ret
    exact ⟨ga,gc,rfl,hrow,HB.out⟩
section
variable {w:World} {b:Nat} {x y s0 s1 s2 ph b0 b1 b2:Int} {sl:Nat} {val:Value} {a:Option Addr} {c:Nat} {p q kind:Int} {A:MA} {m:Jr}
set_option maxRecDepth 100000 in
set_option maxHeartbeats 3200000 in
theorem QB (hB:Zc w b 255 (prC x y s0 s1 s2 ph (.slice a 1 c) sl b0 b1 b2 val 0 0)) (hr:Zb w a [(p,q)]) (h1:m.kind=kind) (h2:m.sl=sl) (h3:(m.b.1:Int)=b0∧m.b.2=(b1,b2)) :
  Calls Tryz.prog 321 #[.pointer (some ⟨b,0,none⟩),.int .i64 ph,.int .i64 kind,.agg #[.int .u16 p,.int .u32 q],.agg (ML A m).toArray] w λe w'=>e=.returned (.bool true)∧Mut (λk=>k=b∨w.heap.size≤k) w w'∧Zc w' b 255 (prC x y s0 s1 s2 ph (.slice a 1 c) sl b0 b1 b2 val 1 0):=by
 obtain ⟨W1,hW1⟩:∃W1,w.alloc (.cells #[.int .u16 p,.int .u32 q] 25)=W1:=⟨_,rfl⟩
 obtain ⟨W2,hW2⟩:∃W2,W1.alloc (.cells (ML A m).toArray 128)=W2:=⟨_,rfl⟩
 have hb1:Below w.heap.size w W1:=by rw [←hW1];exact bra
 have hb12:Below W1.heap.size W1 W2:=by rw [←hW2];exact bra
 have hb2:Below w.heap.size w W2:=hb1.trans (hb12.mono hb1.size)
 have hz1:W1.heap.size=w.heap.size+1:=by rw [←hW1];simp
 have xP:Zc W2 w.heap.size 25 [.int .u16 p,.int .u32 q]:=(by rw [←hW1];exact Zc.made _ _ _:Zc W1 w.heap.size 25 [.int .u16 p,.int .u32 q]).ext hb12
 have xM:Zr W2 W1.heap.size A m:=by rw [←hW2];exact Zr.made _ _ _ _ _
 have m0:=xM.cell (j:=0) (v:=.int .i64 kind) (by rw [←h1];rfl)
 have m4:=xM.cell (j:=4) (v:=.int .u64 sl) (by rw [←h2];rfl)
 have m7:=xM.cell (j:=7) (v:=.int .u32 b0) (by rw [←h3.1];rfl)
 have m8:=xM.cell (j:=8) (v:=.int .u16 b1) (by rw [show b1=m.b.2.1 by rw [h3.2]];rfl)
 have m9:=xM.cell (j:=9) (v:=.int .u32 b2) (by rw [show b2=m.b.2.2 by rw [h3.2]];rfl)
 have hB2:=hB.ext hb2
 have c5:=Za (hB2.cell (j:=5) rfl)
 have c7:=Za (hB2.cell (j:=7) rfl)
 have c8:=Za (hB2.cell (j:=8) rfl)
 have c9:=Za (hB2.cell (j:=9) rfl)
 have c10:=Za (hB2.cell (j:=10) rfl)
 have k0:=Za m0
 have k4:=Za m4
 have k7:=Za m7
 have k8:=Za m8
 have k9:=Za m9
 have hn:=λw=>neq_bal b0 b1 b2 b0 b1 b2 w
 simp only [decide_true,Bool.not_true] at hn
 have HB:=hid hB2
 have HR:=hid (hr.ext hb2)
 have HP:=hid xP
 have HB2:=hid hb2
 have HZ1:=hid hz1
 have HX2:=hid hW2
 clear hB hr h1 h2 h3 hb1 hb12 hb2 xP xM m0 m4 m7 m8 m9 hB2 hz1
 go_enter Tryz.func321,Tryz.ntmps321
 go_upto_region 1 with fail
 try rw [hW2]
 clear hW1 hW2
 refine Ze (w:=W2) (Below.refl _ _) (by kernel_rfl) (by kernel_rfl) ?_
 repeat (go_big_quiet_step (fail))
 refine wpQuiet_nil ?_
 rintro w9 ⟨⟨_,hb9⟩,rfl⟩
 have HB9:=hid (HB.out.ext hb9)
 have HB29:=hid (HB2.out.trans (hb9.mono HB2.out.size))
 have HR9:=hid (HR.out.ext hb9)
 have HP9:=hid (HP.out.ext hb9)
 clear c5 c7 c8 c9 c10 k0 k4 k7 k8 k9 hn hb9 HB HR HP
 go_upto_region 3 with fail
 have d6:=Za (HB9.out.cell (j:=6) rfl)
 have e0:=Za (HP9.out.cell (j:=0) rfl)
 have e1:=Za (HP9.out.cell (j:=1) rfl)
 have CI:∀U:YB w9,Calls Tryz.prog 166 #[.slice a 1 c,.agg #[.int .u16 p,.int .u32 q]] U.W λe w'=>e=.returned (.int .i64 0)∧∃U':YB w9,w'=U'.W:=λU=>ZN (QZ a c [(p,q)] p q U.W (by simp) (HR9.out.ext U.h)) (by simp [Ks,YI])
 refine Ze (w:=w9) (Below.refl _ _) (by kernel_rfl) (by kernel_rfl) ?_
 repeat (go_big_quiet_step (with_reducible exact CI _))
 refine wpQuiet_nil ?_
 rintro w10 ⟨⟨_,hb10⟩,rfl⟩
 have HB10:=hid (HB9.out.ext hb10)
 have HB20:=hid (HB29.out.trans (hb10.mono HB29.out.size))
 clear d6 e0 e1 CI hb10 HB9 HB29 HR9 HP9
 have f12:=HB10.out.cell (j:=12) rfl
 have f13:=HB10.out.cell (j:=13) rfl
 have hlt:=HB10.out.lt
 have CH:=λw=>JR w
 have CW:=hid (λw=>FU w)
 go_wp2_with fail
 refine (CH _).mono ?_
 rintro e w11 ⟨rfl,hb11⟩
 have HB11:=hid (HB10.out.ext hb11)
 have HB21:=hid (HB20.out.trans (hb11.mono HB20.out.size))
 clear f12 f13 hlt CH hb11 HB10 HB20
 have f12:=HB11.out.cell (j:=12) rfl
 have f13:=HB11.out.cell (j:=13) rfl
 go_wp2_with fail
 refine (CW.out _).mono ?_
 rintro e w12 ⟨rfl,hb12⟩
 have HB12:=hid (HB11.out.ext hb12)
 have HB22:=hid (HB21.out.trans (hb12.mono HB21.out.size))
 clear f12 f13 CW hb12 HB11 HB21
 have f12:=HB12.out.cell (j:=12) rfl
 have f13:=HB12.out.cell (j:=13) rfl
 have fz:=HB12.out.frozen
 go_wp2_with fail
 go_ret
 refine ⟨rfl,Zf (Zf ((Mut.of_below HB22.out).mono λk _ e=>.inr e) b _ _ (.inl rfl)) b _ _ (.inl rfl),?_⟩
 exact (HB12.out.set (j:=12) (v:=.int .u64 1)).set (j:=13) (v:=.int .u64 0)
end
section
variable {w:World} {b:Nat} {x y s0 s1 s2 ph b0 b1 b2:Int} {sl:Nat} {val:Value} {a:Option Addr} {c:Nat} {p q kind:Int} {A:MA} {m:Jr}
set_option maxRecDepth 100000 in
set_option maxHeartbeats 3200000 in
theorem zaZ {ld:Value} {m0 m1:Int} (ph':Int) (hB:Zc w b 255 (prC x y s0 s1 s2 ph ld sl b0 b1 b2 val m0 m1)) (hne:ph≠ph') :
  Calls Tryz.prog 321 #[.pointer (some ⟨b,0,none⟩),.int .i64 ph',.int .i64 kind,.agg #[.int .u16 p,.int .u32 q],.agg (ML A m).toArray] w λe w'=>e=.returned (.bool false)∧Below w.heap.size w w':=by
 obtain ⟨W1,hW1⟩:∃W1,w.alloc (.cells #[.int .u16 p,.int .u32 q] 25)=W1:=⟨_,rfl⟩
 obtain ⟨W2,hW2⟩:∃W2,W1.alloc (.cells (ML A m).toArray 128)=W2:=⟨_,rfl⟩
 have hb1:Below w.heap.size w W1:=by rw [←hW1];exact bra
 have hb12:Below W1.heap.size W1 W2:=by rw [←hW2];exact bra
 have hb2:Below w.heap.size w W2:=hb1.trans (hb12.mono hb1.size)
 have g1:(ph != ph')=true:=by rw [bne_iff_ne];exact hne
 have g2:(ph == ph')=false:=by rw [beq_eq_false_iff_ne];exact hne
 have c5:=Za ((hB.ext hb2).cell (j:=5) rfl)
 have HB2:=hid hb2
 clear hB hb1 hb12 hb2 hne
 go_enter Tryz.func321,Tryz.ntmps321
 go_upto_region 1 with fail
 try rw [hW2]
 clear hW1 hW2
 refine Ze (w:=W2) (Below.refl _ _) (by kernel_rfl) (by kernel_rfl) ?_
 repeat (go_big_quiet_step (fail))
 refine wpQuiet_nil ?_
 rintro w9 ⟨⟨_,hb9⟩,rfl⟩
 go_wp2_with fail
 go_ret
 exact ⟨rfl,HB2.out.trans (hb9.mono HB2.out.size)⟩
set_option maxRecDepth 100000 in
set_option maxHeartbeats 3200000 in
theorem zea (hB:Zc w b 255 (prC x y s0 s1 s2 1 (.slice a 1 c) sl b0 b1 b2 val 0 0)) (hr:Zb w a [(p,q)]) (h1:m.kind=5) (h2:m.sl=sl) (h3:(m.b.1:Int)=b0∧m.b.2=(b1,b2)) (h4:m.has=false) :
  Calls Tryz.prog 248 #[.pointer (some ⟨b,0,none⟩),.agg #[.int .u16 p,.int .u32 q],.agg (ML A m).toArray] w λe w'=>e=.returned (.bool true)∧Mut (λk=>k=b∨w.heap.size≤k) w w'∧Zc w' b 255 (prC x y s0 s1 s2 2 (.slice a 1 c) sl b0 b1 b2 val 1 0):=by
 obtain ⟨W1,hW1⟩:∃W1,w.alloc (.cells #[.int .u16 p,.int .u32 q] 25)=W1:=⟨_,rfl⟩
 obtain ⟨W2,hW2⟩:∃W2,W1.alloc (.cells (ML A m).toArray 128)=W2:=⟨_,rfl⟩
 have hb1:Below w.heap.size w W1:=by rw [←hW1];exact bra
 have hb12:Below W1.heap.size W1 W2:=by rw [←hW2];exact bra
 have hb2:Below w.heap.size w W2:=hb1.trans (hb12.mono hb1.size)
 have hz1:W1.heap.size=w.heap.size+1:=by rw [←hW1];simp
 have xP:Zc W2 w.heap.size 25 [.int .u16 p,.int .u32 q]:=(by rw [←hW1];exact Zc.made _ _ _:Zc W1 w.heap.size 25 [.int .u16 p,.int .u32 q]).ext hb12
 have xM:Zr W2 W1.heap.size A m:=by rw [←hW2];exact Zr.made _ _ _ _ _
 have e0:=xP.cell (j:=0) rfl
 have e1:=xP.cell (j:=1) rfl
 have CA:=hid (QB (A:=A) (kind:=5) (hB.ext hb2) (hr.ext hb2) h1 h2 h3)
 have m13:=xM.cell (j:=13) (v:=.bool false) (by rw [←h4];rfl)
 have HM:=hid m13
 have HB2:=hid hb2
 have HBB:=hid hB
 have HNE:Hid (b<w.heap.size∧W1.heap.size=w.heap.size+1∧W1.heap.size<W2.heap.size):=hid ⟨hB.lt,hz1,xM.lt⟩
 clear hB hr h1 h2 h3 h4 hb1 hb12 hb2 xP m13 hz1
 go_enter Tryz.func248,Tryz.ntmps248
 go_upto_region 1 with fail
 try rw [hW2]
 clear hW1 hW2
 go_wp2_with (refine ZX xM rfl rfl rfl ?_)
 refine CA.out.mono ?_
 rintro e w3 ⟨rfl,hm3,hx3⟩
 have HX3:=hid hx3
 have HM3:=hid hm3
 have f13:=Za (show w3.cell? ⟨W1.heap.size,13,none⟩=some (.bool false) from (hm3.cell (p:=⟨W1.heap.size,13,none⟩) (by have:=HNE.out;exact this.2.2) (by have:=HNE.out;simp only;omega)).trans HM.out)
 clear xM e0 e1 CA hm3 hx3 HM
 go_upto_region 3 with fail
 refine Ze (w:=w3) (Below.refl _ _) (by kernel_rfl) (by kernel_rfl) ?_
 repeat (go_big_quiet_step (fail))
 refine wpQuiet_nil ?_
 rintro w9 ⟨⟨_,hb9⟩,rfl⟩
 have HX9:=hid (HX3.out.ext hb9)
 have HM9:Hid (Mut (λk=>k=b∨w.heap.size≤k) w w9):=hid ((((Mut.of_below HB2.out).mono λk _ e=>.inr e).trans (HM3.out.mono λk _ e=>e.imp id (Nat.le_trans HB2.out.size))).trans ((Mut.of_below hb9).mono λk _ e=>.inr (Nat.le_trans (Nat.le_trans HB2.out.size HM3.out.size) e)))
 have CM:=hid (EP HX9.out)
 clear f13 hb9 HX3 HM3
 go_wp2_with fail
 refine CM.out.mono ?_
 rintro e w10 ⟨rfl,hb10⟩
 have HX10:=hid (HX9.out.ext hb10)
 have HM10:Hid (Mut (λk=>k=b∨w.heap.size≤k) w w10):=hid (HM9.out.trans ((Mut.of_below hb10).mono λk _ e=>.inr (Nat.le_trans HM9.out.size e)))
 have c5:=HX10.out.cell (j:=5) rfl
 have fz:=HX10.out.frozen
 clear CM hb10 HX9 HM9
 go_wp2_with fail
 go_ret
 exact ⟨rfl,Zf HM10.out b _ _ (.inl rfl),HX10.out.set (j:=5) (v:=.int .i64 2)⟩
end
section
variable {w:World} {b:Nat} {x y s0 s1 s2 ph b0 b1 b2:Int} {sl:Nat} {val:Value} {a:Option Addr} {c:Nat} {p q kind:Int} {A:MA} {m:Jr}
set_option maxRecDepth 100000 in
set_option maxHeartbeats 3200000 in
theorem zcF {ld:Value} {m0 m1:Int} (hB:Zc w b 255 (prC x y s0 s1 s2 ph ld sl b0 b1 b2 val m0 m1)) (hne:ph≠1) :
  Calls Tryz.prog 248 #[.pointer (some ⟨b,0,none⟩),.agg #[.int .u16 p,.int .u32 q],.agg (ML A m).toArray] w λe w'=>e=.returned (.bool false)∧Below w.heap.size w w':=by
 obtain ⟨W1,hW1⟩:∃W1,w.alloc (.cells #[.int .u16 p,.int .u32 q] 25)=W1:=⟨_,rfl⟩
 obtain ⟨W2,hW2⟩:∃W2,W1.alloc (.cells (ML A m).toArray 128)=W2:=⟨_,rfl⟩
 have hb1:Below w.heap.size w W1:=by rw [←hW1];exact bra
 have hb12:Below W1.heap.size W1 W2:=by rw [←hW2];exact bra
 have hb2:Below w.heap.size w W2:=hb1.trans (hb12.mono hb1.size)
 have xP:Zc W2 w.heap.size 25 [.int .u16 p,.int .u32 q]:=(by rw [←hW1];exact Zc.made _ _ _:Zc W1 w.heap.size 25 [.int .u16 p,.int .u32 q]).ext hb12
 have xM:Zr W2 W1.heap.size A m:=by rw [←hW2];exact Zr.made _ _ _ _ _
 have e0:=xP.cell (j:=0) rfl
 have e1:=xP.cell (j:=1) rfl
 have CA:=hid (zaZ (A:=A) (m:=m) (kind:=5) (p:=p) (q:=q) 1 (hB.ext hb2) hne)
 have HB2:=hid hb2
 clear hB hb1 hb12 hb2 xP hne
 go_enter Tryz.func248,Tryz.ntmps248
 go_upto_region 1 with fail
 try rw [hW2]
 clear hW1 hW2
 go_wp2_with (refine ZX xM rfl rfl rfl ?_)
 refine CA.out.mono ?_
 rintro e w3 ⟨rfl,hb3⟩
 clear CA
 go_wp2_with fail
 go_ret
 exact ⟨rfl,HB2.out.trans (hb3.mono HB2.out.size)⟩
set_option maxRecDepth 100000 in
set_option maxHeartbeats 3200000 in
theorem zcO (hB:Zc w b 255 (prC x y s0 s1 s2 3 (.slice a 1 c) sl b0 b1 b2 val 0 0)) (hr:Zb w a [(p,q)]) (h1:m.kind=7) (h2:m.sl=sl) (h3:(m.b.1:Int)=b0∧m.b.2=(b1,b2)) (hsl:sl≤4611686018427387904) :
  Calls Tryz.prog 249 #[.pointer (some ⟨b,0,none⟩),.agg #[.int .u16 p,.int .u32 q],.agg (ML A m).toArray] w λe w'=>e=.returned (.bool true)∧Mut (λk=>k=b∨w.heap.size≤k) w w'∧Zc w' b 255 (prC x y s0 s1 s2 2 (.slice a 1 c) ((sl+1:Nat):Int) b0 b1 b2 (.pointer none) 1 0):=by
 obtain ⟨W1,hW1⟩:∃W1,w.alloc (.cells #[.int .u16 p,.int .u32 q] 25)=W1:=⟨_,rfl⟩
 obtain ⟨W2,hW2⟩:∃W2,W1.alloc (.cells (ML A m).toArray 128)=W2:=⟨_,rfl⟩
 have hb1:Below w.heap.size w W1:=by rw [←hW1];exact bra
 have hb12:Below W1.heap.size W1 W2:=by rw [←hW2];exact bra
 have hb2:Below w.heap.size w W2:=hb1.trans (hb12.mono hb1.size)
 have xP:Zc W2 w.heap.size 25 [.int .u16 p,.int .u32 q]:=(by rw [←hW1];exact Zc.made _ _ _:Zc W1 w.heap.size 25 [.int .u16 p,.int .u32 q]).ext hb12
 have xM:Zr W2 W1.heap.size A m:=by rw [←hW2];exact Zr.made _ _ _ _ _
 have e0:=xP.cell (j:=0) rfl
 have e1:=xP.cell (j:=1) rfl
 have CA:=hid (QB (A:=A) (kind:=7) (hB.ext hb2) (hr.ext hb2) h1 h2 h3)
 have HB2:=hid hb2
 have hw1:IntKind.u64.wrap ((sl:Int)+1)=((sl+1:Nat):Int):=by rw [IntKind.wrap_u64];omega
 clear hB hr h1 h2 h3 hb1 hb12 hb2 xP
 go_enter Tryz.func249,Tryz.ntmps249
 go_upto_region 1 with fail
 try rw [hW2]
 clear hW1 hW2
 go_wp2_with (refine ZX xM rfl rfl rfl ?_)
 refine CA.out.mono ?_
 rintro e w3 ⟨rfl,hm3,hx3⟩
 have HX3:=hid hx3
 have HM3:Hid (Mut (λk=>k=b∨w.heap.size≤k) w w3):=hid (((Mut.of_below HB2.out).mono λk _ e=>.inr e).trans (hm3.mono λk _ e=>e.imp id (Nat.le_trans HB2.out.size)))
 have CM:=hid (EP hx3)
 clear xM e0 e1 CA hm3 hx3
 go_wp2_with fail
 refine CM.out.mono ?_
 rintro e w10 ⟨rfl,hb10⟩
 have HX10:=hid (HX3.out.ext hb10)
 have HM10:Hid (Mut (λk=>k=b∨w.heap.size≤k) w w10):=hid (HM3.out.trans ((Mut.of_below hb10).mono λk _ e=>.inr (Nat.le_trans HM3.out.size e)))
 have c5:=HX10.out.cell (j:=5) rfl
 have c7:=HX10.out.cell (j:=7) rfl
 have c11:=HX10.out.cell (j:=11) rfl
 have fz:=HX10.out.frozen
 clear CM hb10 HX3 HM3
 go_wp2_with fail
 go_ret
 refine ⟨rfl,Zf (Zf (Zf HM10.out b _ _ (.inl rfl)) b _ _ (.inl rfl)) b _ _ (.inl rfl),?_⟩
 exact ((HX10.out.set (j:=5) (v:=.int .i64 2)).set (j:=11) (v:=.pointer none)).set (j:=7) (v:=.int .u64 ((sl+1:Nat):Int))
set_option maxRecDepth 100000 in
set_option maxHeartbeats 3200000 in
theorem n1Nack {ld:Value} {m0 m1:Int} (hB:Zc w b 255 (prC x y s0 s1 s2 ph ld sl b0 b1 b2 val m0 m1)) (hp:ph≠0) (h1:m.kind=kind) (h2:kind≠8) :
  Calls Tryz.prog 247 #[.pointer (some ⟨b,0,none⟩),.agg (ML A m).toArray] w λe w'=>e=.returned (.bool false)∧Below w.heap.size w w':=by
 obtain ⟨W1,hW1⟩:∃W1,w.alloc (.cells (ML A m).toArray 128)=W1:=⟨_,rfl⟩
 have hb1:Below w.heap.size w W1:=by rw [←hW1];exact bra
 have xM:Zr W1 w.heap.size A m:=by rw [←hW1];exact Zr.made _ _ _ _ _
 have m0:=Za (xM.cell (j:=0) (v:=.int .i64 kind) (by rw [←h1];rfl))
 have c5:=Za ((hB.ext hb1).cell (j:=5) rfl)
 have g1:(ph == 0)=false:=by rw [beq_eq_false_iff_ne];exact hp
 have g2:(kind != 8)=true:=by rw [bne_iff_ne];exact h2
 have g3:(kind == 8)=false:=by rw [beq_eq_false_iff_ne];exact h2
 have HB1:=hid hb1
 clear hB hb1 hp h1 h2 xM
 go_enter Tryz.func247,Tryz.ntmps247
 go_upto_region 1 with fail
 try rw [hW1]
 clear hW1
 refine Ze (w:=W1) (Below.refl _ _) (by kernel_rfl) (by kernel_rfl) ?_
 repeat (go_big_quiet_step (fail))
 refine wpQuiet_nil ?_
 rintro w9 ⟨⟨_,hb9⟩,rfl⟩
 go_wp2_with fail
 go_ret
 exact ⟨rfl,HB1.out.trans (hb9.mono HB1.out.size)⟩
theorem n1Move {ld:Value} {m0 m1:Int} {s:Nat} (hB:Zc w b 255 (prC x y s0 s1 s2 ph ld sl b0 b1 b2 val m0 m1)) (hs:s≤sl) :
  Calls Tryz.prog 314 #[.pointer (some ⟨b,0,none⟩),.int .u64 s] w λe w'=>e=.returned (.bool false)∧Below w.heap.size w w':=by
 have c5:=hB.cell (j:=5) rfl
 have c7:=hB.cell (j:=7) rfl
 have g1:decide ((s:Int)≤(sl:Int))=true:=decide_eq_true (by omega)
 have g2:decide (s≤sl)=true:=decide_eq_true hs
 have hb0:Below w.heap.size w w:=Below.refl _ _
 clear hB hs
 by_cases hp:ph=0
 ·subst hp
  go_enter Tryz.func314,Tryz.ntmps314
  go_wp2_with fail
  go_ret
  exact ⟨rfl,hb0⟩
 ·have g3:(ph == 0)=false:=by rw [beq_eq_false_iff_ne];exact hp
  go_enter Tryz.func314,Tryz.ntmps314
  go_wp2_with fail
  go_ret
  exact ⟨rfl,hb0⟩
end
end Go.Proofs.YtcdpaflmofljaaaGreat

/- Texts behind one another: Clone, Seen, Round, Flat, ClArg. -/
import Derived.OpenShut
import Derived.ProofKit
import Derived.Test.YtaeikigfgfcadaaGreatMq0a
import Derived.Test.YtaeikigfgfcadaaGreatMq0b
import Derived.Test.YtaeikigfgfcadaaGreatMq0c
import Derived.Test.YtaeikigfgfcadaaGreatMq0d
import Derived.Test.YtaeikigfgfcadaaGreatMq0e
import Derived.Test.YtaeikigfgfcadaaGreatMq0f
set_option linter.unusedVariables false
set_option linter.unusedSimpArgs false
set_option linter.unnecessarySimpa false
namespace Go.Proofs.YtaeikigfgfcadaaGreat
open Go.RowKit
set_option maxRecDepth 20000
def chPlaces:Array (Nat × Nat) := #[(0,49968),(49968,1),(49969,1),(49970,1),(49971,1)]
theorem build_fill {parts:Array (Nat × Value)} {c:Array Value} (h:Instr.fill (fun i=>chPlaces[i]?) (zcl 104) parts.toList=some c) (w:World):(Instr.build 104 parts).run Tryz.prog w = .ok (.agg c) w:=by
 have e : (Instr.build 104 parts).run Tryz.prog w = (match Instr.fill (fun i => chPlaces[i]?) (zcl 104) parts.toList with | some cells => pure (.agg cells) | _ => stuck "build: no such field, or a part of the wrong size" : Sem Value).run Tryz.prog w := by kernel_rfl
 rw [e,h]
 rfl
theorem fill_one {place:Nat→Option (Nat × Nat)} {cells:Array Value} {i off:Nat} {v:Value} {rest:List (Nat × Value)} (hp:place i=some (off,1)) (hv:v.cells = #[v]) (ho:off+1≤cells.size) :
  Instr.fill place cells ((i,v) :: rest)=Instr.fill place (cells.setIfInBounds off v) rest:=by
 rw [Instr.fill]
 simp only [hp,hv]
 rw [if_neg (by simp;omega)]
 rfl
def Chip.part (C:Chip) (p r f b e:Nat):Chip :=
 { C with ch:=fun a k=>if a / 8<p then C.ch a k else Chunk.zero,reads:=fun B=>if B<r then C.reads B else 0,failed:=fun B=>if B<f then C.failed B else false,before:=fun B=>if B<b then C.before B else 0,atErase:=fun B=>if B<e then C.atErase B else false }
theorem part_pages {C:Chip} {i r f b e:Nat} (hi:i<12) (j:Nat) (hj:j<49972):lay (C.part i r f b e).cell (i * 4164) 4160 (fun q=>C.cell (i * 4164+q)) j=(C.part (i+1) r f b e).cell j:=by
 refine cell_ext (F:=lay (C.part i r f b e).cell (i * 4164) 4160 (fun q=>C.cell (i * 4164+q))) (G:=(C.part (i+1) r f b e).cell) ?_ ?_ ?_ j hj
 ·intro a k s ha hk hs
  rw [Chip.cell_ch _ ha hk hs]
  have hc:cbase a k+s=a / 8 * 4164+(a % 8 * 520+k * 130+s):=by unfold cbase;omega
  unfold lay
  by_cases h:a / 8=i
  ·rw [if_pos (by omega)]
   show C.cell (i * 4164+(cbase a k+s - i * 4164))=_
   rw [show i * 4164+(cbase a k+s - i * 4164)=cbase a k+s by omega,Chip.cell_ch _ ha hk hs]
   unfold Chip.part
   simp only
   rw [if_pos (by omega)]
  ·rw [if_neg (by omega),Chip.cell_ch _ ha hk hs]
   unfold Chip.part
   simp only
   by_cases h2:a / 8<i
   ·rw [if_pos h2,if_pos (by omega)]
   ·rw [if_neg h2,if_neg (by omega)]
 ·intro B t hB ht
  unfold lay
  rw [if_neg (by unfold bbase;omega),Chip.cell_tail _ hB ht,Chip.cell_tail _ hB ht]
  rfl
 ·intro t ht
  unfold lay
  rw [if_neg (by omega),Chip.cell_last,Chip.cell_last]
  rfl
theorem arr_put (n off:Nat) (F:Nat→Value) (v:Value):((Array.range n).map F).setIfInBounds off v=(Array.range n).map (put F off v):=by
 apply Array.ext
 ·simp
 ·intro i h1 h2
  simp only [Array.size_setIfInBounds,Array.size_map,Array.size_range] at h1
  rw [Array.getElem_setIfInBounds (by simpa using h1)]
  simp only [Array.getElem_map,Array.getElem_range]
  unfold put
  by_cases e:off=i
  ·rw [if_pos e,if_pos e.symm]
  ·rw [if_neg e,if_neg (fun h=>e h.symm)]
theorem part0 (C:Chip) (j:Nat) (hj:j<49972):put (put (put (put Chip.zero.cell 49968 (.bool C.off)) 49969 (.bool C.cut)) 49970 (.int .i64 C.budget)) 49971 (.int .i64 C.steps) j=(C.part 0 0 0 0 0).cell j:=by
 refine cell_ext (F:=put (put (put (put Chip.zero.cell 49968 (.bool C.off)) 49969 (.bool C.cut)) 49970 (.int .i64 C.budget)) 49971 (.int .i64 C.steps)) (G:=(C.part 0 0 0 0 0).cell) ?_ ?_ ?_ j hj
 ·intro a k s ha hk hs
  have:=cbase_lt ha hk hs
  unfold put
  rw [if_neg (by omega),if_neg (by omega),if_neg (by omega),if_neg (by omega),Chip.cell_ch _ ha hk hs,Chip.cell_ch _ ha hk hs]
  unfold Chip.part
  simp only
  rw [if_neg (by omega)]
  rfl
 ·intro B t hB ht
  have:=bbase_lt hB ht
  unfold put
  rw [if_neg (by omega),if_neg (by omega),if_neg (by omega),if_neg (by omega),Chip.cell_tail _ hB ht,Chip.cell_tail _ hB ht]
  unfold Chip.part Chip.tail Chip.zero
  simp
 ·intro t ht
  rw [Chip.cell_last]
  unfold put
  rcases last_cases ht with rfl | rfl | rfl | rfl<;>rfl
theorem build_chip4 (C:Chip) (w:World):(Instr.build 104 #[(1,.bool C.off),(2,.bool C.cut),(3,.int .i64 C.budget),(4,.int .i64 C.steps)]).run Tryz.prog w = .ok (agg 49972 (C.part 0 0 0 0 0).cell) w:=by
 have h:Instr.fill (fun i=>chPlaces[i]?) (zcl 104) [(1,.bool C.off),(2,.bool C.cut),(3,.int .i64 C.budget),(4,.int .i64 C.steps)]=some ((Array.range 49972).map (C.part 0 0 0 0 0).cell):=by
  rw [zchip,fill_one rfl rfl (by simp),arr_put,fill_one rfl rfl (by simp),arr_put,fill_one rfl rfl (by simp),arr_put,fill_one rfl rfl (by simp),arr_put,Instr.fill]
  congr 1
  apply Array.ext
  ·simp
  ·intro i h1 h2
   simp only [Array.getElem_map,Array.getElem_range]
   exact part0 C i (by simpa using h1)
 exact build_fill (parts := #[(1,.bool C.off),(2,.bool C.cut),(3,.int .i64 C.budget),(4,.int .i64 C.steps)]) h w
theorem part_upd {α:Type} {f:Nat→α} {i b:Nat} {d:α} {g:α→Value}:g (if b<i+1 then f b else d)=if b=i then g (f i) else g (if b<i then f b else d):=by
 by_cases e:b=i
 ·subst e
  rw [if_pos (by omega),if_pos rfl]
 ·rw [if_neg e]
  by_cases h:b<i
  ·rw [if_pos h,if_pos (by omega)]
  ·rw [if_neg h,if_neg (by omega)]
theorem Chunk.cell_one (x:Chunk) (s:Nat):(x.cell s).oneCell'=true:=by
 unfold Chunk.cell
 split
 ·rfl
 ·split
  ·rfl
  ·split<;>rfl
theorem Chip.cell_one (C:Chip) (j:Nat):(C.cell j).oneCell'=true:=by
 unfold Chip.cell
 split
 ·split
  ·exact Chunk.cell_one _ _
  ·unfold Chip.tail
   split
   ·rfl
   ·split
    ·rfl
    ·split<;>rfl
 ·unfold Chip.last
  split
  ·rfl
  ·split
   ·rfl
   ·split<;>rfl
theorem size_pages:(Tryz.prog.info? 94).map (·.size)=some 4160:=by kernel_rfl
set_option maxHeartbeats 4000000 in
theorem nclone_ok {w:World} {c:Nat} {C:Chip} (H:ChipAt w c C):Spec Tryz.prog 28 #[.pointer (some ⟨c,0,none⟩)] w fun v w'=>v = .pointer (some ⟨w.heap.size,0,none⟩)∧ChipAt w' w.heap.size C∧Keep [] w w':=by
 refine spec_of_wpE (T:=tt) tt_ok Tryz.func28 rfl (by decide +kernel) Tryz.ntmps28 (by simp) ?_
 conv=>whnf
 refine CW.held (fun w'=>ChipAt w' c C) [] (.take 0 (.take 1 (.take 2 (.take 3 (.take 4 (.take 5 (.take 6 (.take 7 (.take 8 (.take 9 (.take 10 (.take 11 (.take 12 (.take 13 (.take 14 (.take 15 (.take 16 (.one 17 (.take 18 (.done)))))))))))))))))))) tt_ok (by kernel_rfl) (by kernel_rfl) (by kernel_rfl) ?_ ?_
 ·exact H.drewN 1
 have q0:=(Keep.refl [] w).drewN 1
 have H0:=H.drewN 1
 have hsz:(w.drewN 1).heap.size=w.heap.size:=rfl
 generalize w.drewN 1=w0 at *
 conv=>whnf
 repeat ((first
  | (refine LdQ.of (fun _ h=>h.off) ?_)
  | (refine LdQ.of (fun _ h=>h.cut) ?_)
  | (refine LdQ.of (fun _ h=>h.budget) ?_)
  | (refine LdQ.of (fun _ h=>h.steps) ?_));conv=>whnf)
 refine RuQ.of (fun w2 _=>build_chip4 C w2) ?_
 conv=>whnf
 refine Ru.boxa ?_
 intro x w1 hx hs1 r1 k1
 rw [hsz] at hx
 subst hx
 have H1:ChipAt w1 w.heap.size (C.part 0 0 0 0 0):=r1
 have hcl:c<w.heap.size:=Row.lt H
 have k1:=q0.trans k1
 clear r1 q0 H0 hsz hs1
 refine ⟨H.keep k1 (by simp),?_⟩
 conv=>whnf
 repeat ((first
  | refine CW.s ?_);conv=>whnf)
 refine CW.loop (ι:=Nat) (fun i w'=>i≤12∧ChipAt w' w.heap.size (C.part i i i i i)∧ChipAt w' c C∧Keep [] w w') (fun i=>[(0,.pointer (some ⟨c,0,none⟩)),(3,.pointer (some ⟨w.heap.size,0,none⟩)),(25,.int .i64 i)]) (fun i=>12 - i) 0 tt_ok
  ⟨by omega,H1,H.keep k1 (by simp),k1⟩ ⟨rfl,rfl,rfl,trivial⟩ ?_
 clear H1 k1
 rintro i wr ⟨hi,Hi,Hc,ki⟩
 by_cases hlt:i<12
 ·conv=>whnf
  repeat ((first
   | refine Br.y ?_|refine CW.s ?_);conv=>whnf)
  refine CW.held (fun w'=>True) [] (.take 0 (.take 1 (.take 2 (.take 3 (.take 4 (.take 5 (.take 6 (.take 7 (.take 8 (.take 9 (.take 10 (.take 11 (.done))))))))))))) tt_ok (by kernel_rfl) (by kernel_rfl) (by kernel_rfl) ?_ ?_
  ·trivial
  have q1:=(Keep.refl [] wr).drewN 1
  have Hi2:=Hi.drewN 1
  have Hc2:=Hc.drewN 1
  have ki2:=ki.trans q1
  clear Hi Hc ki q1
  generalize wr.drewN 1=w2 at *
  conv=>whnf
  repeat ((first
   | (refine Ix.of i (by omega) (by omega) ?_));conv=>whnf)
  rw [show 0+0+i * 4164=i * 4164 by omega]
  refine Ru.ldaC (q:=fun q=>C.cell (i * 4164+q)) Hc2 Tryz.underlying94 rfl size_pages (by omega) (fun j hj=>by rw [Nat.add_zero]) ?_
  conv=>whnf
  refine Ru.sta Hi2 size_pages (by omega) (fun j hj=>Chip.cell_one _ _) ?_
  intro w3 r3 k3
  have H3:ChipAt w3 w.heap.size (C.part (i+1) i i i i):=Row.congr r3 (fun j hj=>by rw [Nat.add_zero];exact part_pages hlt j hj)
  have hcx:c∉[w.heap.size]:=fun hm=>by
   have:=List.mem_singleton.1 hm
   omega
  have Hc3:=Hc2.keep k3 hcx
  have ki3:Keep [] w w3:=ki2.then k3 (fun x hx=>.inr (by rw [List.mem_singleton.1 hx];exact Nat.le_refl _))
  clear r3 k3 Hi2 Hc2 ki2
  conv=>whnf
  refine CW.held (fun w'=>True) [] (.take 0 (.take 1 (.take 2 (.take 3 (.take 4 (.take 5 (.one 6 (.one 7 (.done))))))))) tt_ok (by kernel_rfl) (by kernel_rfl) (by kernel_rfl) ?_ ?_
  ·trivial
  have q1:=(Keep.refl [] w3).drewN 1
  have H4:=H3.drewN 1
  have Hc4:=Hc3.drewN 1
  have ki4:=ki3.trans q1
  clear H3 Hc3 ki3 q1
  generalize w3.drewN 1=w4 at *
  conv=>whnf
  refine Ca.of (aload_ok c _ (C.reads i) w4 (by rw [ebase (i:=0) rfl];exact Hc4.readsC hlt)) ?_
  rintro _ w5 ⟨rfl,rfl⟩
  conv=>whnf
  repeat ((first
   | refine HS.t ?_);conv=>whnf)
  refine Ca.of (astore_ok w.heap.size _ _ (C.reads i) w5 (by rw [ebase (i:=0) rfl];exact H4.readsC hlt) (Row.free H4 _)) ?_
  rintro _ w6 ⟨rfl,e6⟩
  rw [ebase (i:=0) rfl] at e6
  have H6:ChipAt w6 w.heap.size (C.part (i+1) (i+1) i i i):=by
   rw [e6]
   exact H4.setTail (i:=0) hlt (by omega) rfl (fun _=>rfl) (fun B' i' _ hi'=>tail_upd (fun b=>by
    unfold Chip.tail Chip.part
    simp only [if_true]
    exact part_upd (g:=fun x=>.int .i64 x)) (fun b j hj hn=>by rcases last_cases hj with rfl | rfl | rfl | rfl<;>first | rfl | exact absurd rfl hn) B' i' hi')
  have k6:Keep [w.heap.size] w5 w6:=by
   rw [e6]
   exact Keep.set _ _ _
  have Hc6:=Hc4.keep k6 hcx
  have ki6:Keep [] w w6:=ki4.then k6 (fun x hx=>.inr (by rw [List.mem_singleton.1 hx];exact Nat.le_refl _))
  clear H4 Hc4 ki4 k6 e6
  conv=>whnf
  repeat ((first
   | refine HS.t ?_);conv=>whnf)
  refine CW.held (fun w'=>ChipAt w' c C) [] (.take 0 (.take 1 (.take 2 (.take 3 (.take 4 (.take 5 (.take 6 (.take 7 (.take 8 (.take 9 (.take 10 (.take 11 (.take 12 (.take 13 (.take 14 (.take 15 (.take 16 (.one 17 (.take 18 (.take 19 (.one 20 (.take 21 (.take 22 (.one 23 (.done))))))))))))))))))))))))) tt_ok (by kernel_rfl) (by kernel_rfl) (by kernel_rfl) ?_ ?_
  ·exact Hc6.drewN 1
  have q1:=(Keep.refl [] w6).drewN 1
  have H7:=H6.drewN 1
  have Hc7:=Hc6.drewN 1
  have ki7:=ki6.trans q1
  clear H6 Hc6 ki6 q1
  generalize w6.drewN 1=w7 at *
  conv=>whnf
  repeat ((first
   | (refine LdQ.at (ebase (i:=1) rfl) (fun _ h=>h.failedC hlt) ?_)
   | (refine LdQ.at (ebase (i:=2) rfl) (fun _ h=>h.beforeC hlt) ?_)
   | (refine LdQ.at (ebase (i:=3) rfl) (fun _ h=>h.atEraseC hlt) ?_));conv=>whnf)
  refine Sd.setAt _ (ebase (i:=1) rfl) (H7.failedC hlt) (Row.free H7 _) rfl ?_
  have H8:ChipAt (w7.setCell ⟨w.heap.size,bbase i+1,none⟩ (.bool (C.failed i))) w.heap.size (C.part (i+1) (i+1) (i+1) i i) :=
   H7.setTail (i:=1) hlt (by omega) rfl (fun _=>rfl) (fun B' i' _ hi'=>tail_upd (fun b=>by
    unfold Chip.tail Chip.part
    simp only [if_true]
    exact part_upd (g:=fun x=>.bool x)) (fun b j hj hn=>by rcases last_cases hj with rfl | rfl | rfl | rfl<;>first | rfl | exact absurd rfl hn) B' i' hi')
  have k7:Keep [w.heap.size] w7 (w7.setCell ⟨w.heap.size,bbase i+1,none⟩ (.bool (C.failed i))):=Keep.set _ _ _
  have Hc8:=Hc7.keep k7 hcx
  have ki8:Keep [] w _:=ki7.then k7 (fun x hx=>.inr (by rw [List.mem_singleton.1 hx];exact Nat.le_refl _))
  clear H7 Hc7 ki7 k7
  generalize w7.setCell _ _=w8 at *
  refine ⟨Hc8,?_⟩
  conv=>whnf
  refine Sd.setAt _ (ebase (i:=2) rfl) (H8.beforeC hlt) (Row.free H8 _) rfl ?_
  have H9:ChipAt (w8.setCell ⟨w.heap.size,bbase i+2,none⟩ (.int .i64 (C.before i))) w.heap.size (C.part (i+1) (i+1) (i+1) (i+1) i) :=
   H8.setTail (i:=2) hlt (by omega) rfl (fun _=>rfl) (fun B' i' _ hi'=>tail_upd (fun b=>by
    unfold Chip.tail Chip.part
    simp only [if_true]
    exact part_upd (g:=fun x=>.int .i64 x)) (fun b j hj hn=>by rcases last_cases hj with rfl | rfl | rfl | rfl<;>first | rfl | exact absurd rfl hn) B' i' hi')
  have k8:Keep [w.heap.size] w8 (w8.setCell ⟨w.heap.size,bbase i+2,none⟩ (.int .i64 (C.before i))):=Keep.set _ _ _
  have Hc9:=Hc8.keep k8 hcx
  have ki9:Keep [] w _:=ki8.then k8 (fun x hx=>.inr (by rw [List.mem_singleton.1 hx];exact Nat.le_refl _))
  clear H8 Hc8 ki8 k8
  generalize w8.setCell _ _=w9 at *
  refine ⟨Hc9,?_⟩
  conv=>whnf
  refine Sd.setAt _ (ebase (i:=3) rfl) (H9.atEraseC hlt) (Row.free H9 _) rfl ?_
  have H10:ChipAt (w9.setCell ⟨w.heap.size,bbase i+3,none⟩ (.bool (C.atErase i))) w.heap.size (C.part (i+1) (i+1) (i+1) (i+1) (i+1)) :=
   H9.setTail (i:=3) hlt (by omega) rfl (fun _=>rfl) (fun B' i' _ hi'=>tail_upd (fun b=>by
    unfold Chip.tail Chip.part
    simp only [if_true]
    exact part_upd (g:=fun x=>.bool x)) (fun b j hj hn=>by rcases last_cases hj with rfl | rfl | rfl | rfl<;>first | rfl | exact absurd rfl hn) B' i' hi')
  have k9:Keep [w.heap.size] w9 (w9.setCell ⟨w.heap.size,bbase i+3,none⟩ (.bool (C.atErase i))):=Keep.set _ _ _
  have Hc10:=Hc9.keep k9 hcx
  have ki10:Keep [] w _:=ki9.then k9 (fun x hx=>.inr (by rw [List.mem_singleton.1 hx];exact Nat.le_refl _))
  clear H9 Hc9 ki9 k9
  generalize w9.setCell _ _=w10 at *
  refine ⟨Hc10,?_⟩
  conv=>whnf
  repeat ((first
   | refine Ar.la ?_);conv=>whnf)
  exact ⟨i+1,⟨hlt,H10,Hc10,ki10⟩,⟨rfl,rfl,vi (by omega),trivial⟩,by simp only;omega⟩
 ·obtain rfl:i=12:=by omega
  conv=>whnf
  repeat ((first
   | refine Br.f ?_|refine CW.s ?_);conv=>whnf)
  exact ⟨rfl,rfl,Hi.congr (fun a k ha _=>by unfold Chip.part;simp only;rw [if_pos (by omega)]) (fun B t hB _=>by unfold Chip.part Chip.tail;simp only [hB,if_true]) (fun _ _=>rfl),ki⟩
def SlsAt (w0 w:World) (Z:Option Addr) (cz n:Nat) (a:Nat→Nat→Nat):Prop :=
 ∃ (Y:Nat→Option Addr) (e:Nat→Nat),Ly w 37 1 Z n cz (fun j=>.slice (Y j) 160 (e j))∧(∀ x,x∈blk Z→w0.heap.size≤x)∧∀ j,j<n→Ly w 5 1 (Y j) 160 (e j) (fun i=>.int .u8 (a j i:Nat))∧∀ x,x∈blk (Y j)→w0.heap.size≤x
theorem bys_info:(Tryz.prog.info? 37).map (fun i=>(i.zero,i.size,i.bytes))=some (some (.slice none 0 0),1,24):=by kernel_rfl
theorem build_bys (A:Option Addr) (n c:Nat) (w:World):(Instr.buildSlice 51 1 #[(0,.slice A n c)]).run Tryz.prog w = .ok (.slice (some ⟨w.heap.size,0,none⟩) 1 1) (w.alloc (rowObj 1 (fun _=>.slice A n c) 37)):=by kernel_rfl
theorem SlsAt.keep {w0 w w':World} {Z:Option Addr} {cz n:Nat} {a:Nat→Nat→Nat} {S:List Nat} (h:SlsAt w0 w Z cz n a) (k:Keep S w w') (hS:∀ x,x∈S→x<w0.heap.size):SlsAt w0 w' Z cz n a:=by
 obtain ⟨Y,e,h1,h2,h3⟩:=h
 refine ⟨Y,e,h1.keep k (fun x hx hm=>?_),h2,fun j hj=>⟨(h3 j hj).1.keep k (fun x hx hm=>?_),(h3 j hj).2⟩⟩
 ·have:=h2 x hx
  have:=hS x hm
  omega
 ·have:=(h3 j hj).2 x hx
  have:=hS x hm
  omega
theorem cores_some (w:World) (x:Operand) (a:Addr):(do eqGuard .eql 85 x (.const (.pointer none)) (.pointer (some a)) (.pointer none);binOp .eql 85 (.pointer (some a)) (.pointer none):Sem Value).run Tryz.prog w = .ok (.bool false) w:=core_some w x a
theorem get_inv {w:World} {N:Cr} {K:KS} {P:CS} {b:Option Nat} {n m:Int} {c:Nat} {X:Option Addr} {k:Cp} {a:Nat→Nat→Nat} (h:On w N K P b n X c) (I:Inv K P k m) (hs:Shows P K.at_ a) {o:Nat} (ho:o<24) :
  Spec Tryz.prog 46 #[.pointer (some ⟨N.k,0,none⟩),.int .i64 o] w fun v w'=>∃ Y e D K' P' n',v = .tuple #[.slice Y 160 e,errOf 0]∧GotB w w' Y 160 e D∧(∀ j,j<160→D j=a o j)∧On w' N K' P' b n' X c∧Inv K' P' k m∧Shows P' K'.at_ a∧Keep N.all w w':=by
 by_cases h0:K.at_ o=0
 ·refine (cget_none h ho h0).mono ?_
  rintro v w' ⟨Y,e,rfl,G,kk⟩
  refine ⟨Y,e,_,K,P,n,rfl,G,fun j hj=>?_,h.keep0 kk,I,hs,Keep.of0 kk⟩
  have:=hs o j ho hj
  unfold arr at this
  rw [if_pos h0] at this
  exact this
 ·obtain ⟨hp,t,D,a2,a3,a4,a5,a6,a7,a8⟩:=I.l.page (o:=o) (by omega) h0
  refine (cget_ok h I.h.hb ho h0 (I.l.ok.led.lt (by omega)) (I.l.con.mw.lo _ hp) a2 a4 a3 (by rw [I.l.ok.gd.calm.d];omega)).mono ?_
  rintro v w' ⟨Y,e,rfl,G,h2,kk⟩
  refine ⟨Y,e,D,_,_,_,rfl,G,fun j hj=>?_,h2,I.read hp,Shows.same (P':=P.readE (K.at_ o - 1)) hs (fun o _ _=>rfl),kk⟩
  have:=hs o j ho hj
  unfold arr dataAt at this
  rw [if_neg h0,a2] at this
  exact this
set_option maxHeartbeats 8000000 in
theorem seen_all {w:World} {ch:Nat} {m:Int} {a:Nat→Nat→Nat} (hm:m≤1099511627775) (h:∃ C P,ChipAt w ch C∧Abs C P∧C.left none∧Tl P m a) :
  Spec Tryz.prog 29 #[.pointer (some ⟨ch,0,none⟩)] w fun v w'=>∃ Z cz,v = .slice Z 24 cz∧SlsAt w w' Z cz 24 a∧Keep [ch] w w':=by
 obtain ⟨C,P,H,hA,hl,k,L,hO,hS⟩:=h
 obtain ⟨K',P',tr,M,I,q,hs⟩:=mount_end hO hm
 have s1:=(hs _ hS).2
 refine spec_of_wpE (T:=tt) tt_ok Tryz.func29 rfl (by decide +kernel) Tryz.ntmps29 (by simp) ?_
 conv=>whnf
 refine Ca.of (mount_ok H hA hl hO.gd.calm M) ?_
 rintro _ w1 ⟨k1,hr1⟩
 rcases hr1 with ⟨f1,N,n1,rfl,eC,h1,hall⟩ | ⟨y,hy,hyb,-⟩
 case inr=>cases hyb
 conv=>whnf
 repeat ((first
  | refine CW.s ?_);conv=>whnf)
 refine Ru.of (cores_some w1 _ _) ?_
 conv=>whnf
 repeat ((first
  | refine Br.f ?_|refine Pk.f ?_|refine Ru.neq_nil0 ?_|refine CW.s ?_);conv=>whnf)
 have hlt1:∀ x,x∈N.all→x<w1.heap.size:=fun x hx=>by
  rcases List.mem_append.1 hx with hx | hx
  ·exact h1.core.lt (List.mem_append_left _ hx)
  ·exact h1.l_lt _ hx
 refine CW.loop (ι:=Nat × KS × CS × Int × Option Addr × Nat) (fun i w'=>i.1≤24∧On w' N i.2.1 i.2.2.1 none i.2.2.2.1 none 0∧Inv i.2.1 i.2.2.1 k m∧Shows i.2.2.1 i.2.1.at_ a∧SlsAt w1 w' i.2.2.2.2.1 i.2.2.2.2.2 i.1 a∧Keep N.all w1 w')
  (fun i=>[(3,.pointer (some ⟨N.k,0,none⟩)),(5,.slice i.2.2.2.2.1 i.1 i.2.2.2.2.2),(6,.int .i64 i.1)]) (fun i=>24 - i.1) (0,K',P',n1,none,0) tt_ok
  ⟨by omega,h1,I,s1,⟨fun _=>none,fun _=>0,Ly.nil _ _ _ _,(fun _ h=>nomatch h),fun j hj=>by omega⟩,Keep.refl _ _⟩ ⟨rfl,rfl,rfl,trivial⟩ ?_
 have h10:=h1
 clear h1 I s1 q hs M hS
 rintro ⟨i,K,P2,n,Z,cz⟩ wr ⟨hi,h1,I,s1,Sl,kk⟩
 simp only at hi h1 I s1 Sl kk ⊢
 rcases Nat.lt_or_ge i 24 with hlt | hge
 ·conv=>whnf
  repeat ((first
   | refine Br.y ?_|refine CW.s ?_);conv=>whnf)
  refine Ca.of (get_inv h1 I s1 hlt) ?_
  rintro _ w2 ⟨Y,e,D,K2,P3,n2,rfl,G,hD,h2,I2,s2,k2⟩
  conv=>whnf
  repeat ((first
   | refine Br.f ?_|refine Ru.neq_nil0 ?_|refine CW.s ?_);conv=>whnf)
  refine Ru.of (build_bys Y 160 e w2) ?_
  have r3:=Row.obj w2 37 1 (fun _=>.slice Y 160 e)
  have k3:Keep [] w2 (w2.alloc (rowObj 1 (fun _=>.slice Y 160 e) 37)):=(Keep.refl _ _).alloc _
  have hw2:w1.heap.size≤wr.heap.size:=kk.size
  have Sl2:=(Sl.keep k2 hlt1).keep k3 (by simp)
  have hY:Ly w2 5 1 Y 160 e (fun j=>.int .u8 (a i j:Nat)):=G.ly.congr (fun j hj=>by rw [hD j (by omega)])
  have hY2:=hY.keep0 k3
  have h3:=h2.keep0 k3
  have kk3:=(kk.trans k2).trans (Keep.of0 (N:=N) k3)
  clear Sl k2 hY h2 k3
  generalize w2.alloc _=w3 at *
  obtain ⟨Ys,es,g1,g2,g3⟩:=Sl2
  obtain ⟨i0,hi0,hz0,hz1,hz2⟩:=info_parts bys_info
  conv=>whnf
  refine Bu.append Tryz.underlying51 hi0 hz0 hz1 hz2 rfl (by omega) g1 _ (Rd.of_row r3 (n:=1 * 1) (by omega)) (by omega) (by simp) (fun _ _=>rfl) (by simp only [maxLen];omega) (by omega) ?_
  intro Z' cz' w4 hl4 k4 hat hpre
  conv=>whnf
  repeat ((first
   | refine Ar.la ?_);conv=>whnf)
  have hw3:w1.heap.size≤w3.heap.size:=kk3.size
  have hYn:∀ x,x∈blk Y→w1.heap.size≤x:=fun x hx=>Nat.le_trans hw2 (G.new x hx)
  have far:∀ {B:Option Addr} {c:Nat} {f:Nat→Value},Ly w3 5 1 B 160 c f→Ly w4 5 1 B 160 c f:=fun hB=>hB.keep k4 (fun x hx=>hB.type_ne g1 (by decide) hx)
  refine ⟨(i+1,K2,P3,n2,Z',cz'),⟨hlt,On.keepS h10 h3 k4 g2,I2,s2,⟨fun j=>if j=i then Y else Ys j,fun j=>if j=i then e else es j,hl4.congr (fun j hj=>?_),fun x hx=>?_,fun j hj=>?_⟩,kk3.then k4 (fun x hx=>.inr (g2 x hx))⟩,⟨rfl,rfl,vi (by simp only;omega),trivial⟩,by simp only;omega⟩
  ·by_cases hj2:j=i
   ·simp only [hj2,if_true]
    rw [if_neg (by omega)]
   ·rw [if_pos (by omega)]
    simp only [if_neg hj2]
  ·rcases hat with e1 | e1
   ·rw [e1] at hx
    exact g2 x hx
   ·rw [e1] at hx
    rw [List.mem_singleton.1 hx]
    exact hw3
  ·by_cases hj2:j=i
   ·simp only [hj2,if_true]
    exact ⟨far hY2,hYn⟩
   ·simp only [if_neg hj2]
    have:=g3 j (by omega)
    exact ⟨far this.1,this.2⟩
 ·obtain rfl:i=24:=by omega
  conv=>whnf
  repeat ((first
   | refine Br.f ?_|refine CW.s ?_);conv=>whnf)
  refine ⟨rfl,Z,cz,rfl,?_,k1.then kk (fun x hx=>by
   rcases hall x hx with h | h
   ·exact .inl (List.mem_singleton.2 h)
   ·exact .inr h)⟩
  obtain ⟨Y,e,g1,g2,g3⟩:=Sl
  have:=k1.size
  exact ⟨Y,e,g1,fun x hx=>Nat.le_trans this (g2 x hx),fun j hj=>⟨(g3 j hj).1,fun x hx=>Nat.le_trans this ((g3 j hj).2 x hx)⟩⟩
noncomputable def areB (f:Nat→Nat→Nat) (a:Nat→Nat):Bool:=@decide (∀ o,o<24→∀ j,j<160→f o j=byF (a o) j) (Classical.propDecidable _)
set_option maxHeartbeats 8000000 in
theorem are_ok {w w0:World} {Z:Option Addr} {cz:Nat} {f:Nat→Nat→Nat} {a:Nat→Nat} (S:SlsAt w0 w Z cz 24 f) (hf:∀ o j,f o j<256) (ha:∀ o,a o≤1000000) :
  Spec Tryz.prog 30 #[.slice Z 24 cz,agg 24 (arF a)] w fun v w'=>v = .bool (areB f a)∧Keep [] w w':=by
 obtain ⟨Y,e,g1,g2,g3⟩:=S
 refine spec_of_wpE (T:=tt) tt_ok Tryz.func30 rfl (by decide +kernel) Tryz.ntmps30 (by simp) ?_
 conv=>whnf
 refine Ru.boxa ?_
 intro x3 w1 hx3 hs1 r3 k1
 have g11:=g1.keep0 k1
 have g31:∀ j,j<24→Ly w1 5 1 (Y j) 160 (e j) (fun i=>.int .u8 (f j i:Nat)):=fun j hj=>(g3 j hj).1.keep0 k1
 clear g1 g2 g3 hs1
 conv=>whnf
 repeat ((first
  | refine Br.f ?_|refine CW.s ?_);conv=>whnf)
 refine CW.loop (ι:=Nat) (fun i w'=>i≤24∧(∀ o,o<i→∀ j,j<160→f o j=byF (a o) j)∧Ly w' 37 1 Z 24 cz (fun j=>.slice (Y j) 160 (e j))∧(∀ j,j<24→Ly w' 5 1 (Y j) 160 (e j) (fun i=>.int .u8 (f j i:Nat)))∧Row w' x3 28 24 (arF a)∧Keep [] w w')
  (fun i=>[(0,.slice Z 24 cz),(3,.pointer (some ⟨x3,0,none⟩)),(5,.int .i64 i)]) (fun i=>24 - i) 0 tt_ok
  ⟨by omega,fun o ho=>by omega,g11,g31,r3,k1⟩ ⟨rfl,rfl,rfl,trivial⟩ ?_
 clear g11 g31 r3 k1 w1 hx3
 rintro i wr ⟨hi,hd,h1,h2,r3,kk⟩
 rcases Nat.lt_or_ge i 24 with hlt | hge
 ·obtain ⟨g,hZ,hc⟩:∃ g,Z=some ⟨g,0,none⟩∧wr.cell? ⟨g,i,none⟩=some (.slice (Y i) 160 (e i)):=by
   obtain ⟨g,e1,e2,-⟩:=h1.at1 (j:=i) hlt
   exact ⟨g,e1,e2⟩
  subst hZ
  conv=>whnf
  repeat ((first
   | refine Br.y ?_|refine CW.s ?_);conv=>whnf)
  refine CW.held (fun w'=>Row w' x3 28 24 (arF a)∧w'.cell? ⟨g,i,none⟩=some (.slice (Y i) 160 (e i))) [] (.take 0 (.take 1 (.take 2 (.take 3 (.take 4 (.take 5 (.take 6 (.take 7 (.one 8 (.one 9 (.take 10 (.done)))))))))))) tt_ok (by kernel_rfl) (by kernel_rfl) (by kernel_rfl) ?_ ?_
  ·exact ⟨r3.drewN 1,hc⟩
  have q1:=(Keep.refl [] wr).drewN 1
  have h12:=h1.keep0 q1
  have h22:∀ j,j<24→Ly (wr.drewN 1) 5 1 (Y j) 160 (e j) (fun i=>.int .u8 (f j i:Nat)):=fun j hj=>(h2 j hj).keep0 q1
  have r32:=r3.keep q1 (by simp)
  have kk2:=kk.trans q1
  have hc2:(wr.drewN 1).cell? ⟨g,i,none⟩=some (.slice (Y i) 160 (e i)):=hc
  clear h1 h2 r3 kk q1 hc
  generalize wr.drewN 1=w2 at *
  have ha1:=ha i
  conv=>whnf
  repeat ((first
   | (refine Ix.of i (by omega) (by omega) ?_)
   | (refine LdQ.at (by omega) (fun _ h=>h.2) ?_)
   | (refine LdQ.at (by omega) (fun _ h=>Row.cell h.1 i (by omega)) ?_));conv=>whnf)
  refine Ca.of (tbytes_ok _ (by omega) w2) ?_
  rintro _ w3 ⟨gb,rfl,hgb,rb,k3⟩
  have h13:=h12.keep0 k3
  have h23:∀ j,j<24→Ly w3 5 1 (Y j) 160 (e j) (fun i=>.int .u8 (f j i:Nat)):=fun j hj=>(h22 j hj).keep0 k3
  have r33:=r32.keep k3 (by simp)
  have kk3:=kk2.trans k3
  have hc3:w3.cell? ⟨g,i,none⟩=some (.slice (Y i) 160 (e i)):=by
   obtain ⟨g',e1,e2,-⟩:=h13.at1 (j:=i) hlt
   cases e1
   exact e2
  clear h12 h22 r32 kk2 hc2 k3
  conv=>whnf
  refine ⟨⟨r33,hc3⟩,?_⟩
  conv=>whnf
  refine Ca.of (same17_ok _ _ 160 160 _ _ (fun j=>((f i j:Nat):Int)) (fun j=>((byF (a i) j:Nat):Int)) w3 (h23 i hlt).rd1 (Rd.of_row rb (n:=160) (by omega)) (fun j=>by have:=hf i j;omega) (fun j=>by have:=byF_lt (a i) j;omega)) ?_
  rintro _ _ ⟨rfl,rfl⟩
  conv=>whnf
  refine ⟨⟨r33,hc3⟩,?_⟩
  by_cases hsb:sameB 160 160 (fun j=>((f i j:Nat):Int)) (fun j=>((byF (a i) j:Nat):Int))=true
  ·rw [hsb]
   conv=>whnf
   repeat ((first
    | refine Br.f ?_|refine Ar.la ?_);conv=>whnf)
   refine ⟨i+1,⟨hlt,fun o ho j hj=>?_,h13,h23,r33,kk3⟩,⟨rfl,rfl,vi (by omega),trivial⟩,by simp only;omega⟩
   by_cases e:o=i
   ·rw [e]
    have h9:=(of_decide_eq_true hsb).2 j hj
    exact Int.ofNat.inj h9
   ·exact hd o (by omega) j hj
  ·have hsb':sameB 160 160 (fun j=>((f i j:Nat):Int)) (fun j=>((byF (a i) j:Nat):Int))=false:=by simpa using hsb
   have hno:areB f a=false:=by
    unfold areB
    refine @decide_eq_false _ (Classical.propDecidable _) (fun h=>hsb (sameB_yes rfl (fun j hj=>?_)))
    rw [h i hlt j hj]
   rw [hsb',hno]
   conv=>whnf
   repeat ((first
    | refine Br.t ?_);conv=>whnf)
   exact ⟨rfl,rfl,kk3⟩
 ·obtain rfl:i=24:=by omega
  conv=>whnf
  repeat ((first
   | refine Br.f ?_|refine CW.s ?_);conv=>whnf)
  have hy:areB f a=true:=by
   unfold areB
   exact @decide_eq_true _ (Classical.propDecidable _) (fun o ho=>hd o ho)
  rw [hy]
  exact ⟨rfl,rfl,kk⟩
structure LpI (w w':World) (ch:Nat) (C:Chip) (x3:Nat) (c:Cl) (x7:Nat) (a:Nat→Nat) (B:Nat):Prop where
 chip:ChipAt w' ch C
 r3:Row w' x3 36 3 c.cell
 r7:Row w' x7 28 24 (arF a)
 kk:Keep [] w w'
 hc:ch<B
 h3:x3<B
 h7:x7<B
 hB:w.heap.size≤B
 sz:B≤w'.heap.size
section
variable {w w1 w2:World} {ch:Nat} {C:Chip} {x3 x7:Nat} {c:Cl} {a:Nat→Nat} {B:Nat}
theorem LpI.far {S:List Nat} (h:LpI w w1 ch C x3 c x7 a B) (k:Keep S w1 w2) (hS:∀ y,y∈S→B≤y):LpI w w2 ch C x3 c x7 a B:=by
 have no:∀ y,y<B→y∉S:=fun y hy hm=>by have:=hS y hm;omega
 exact ⟨h.chip.keep k (no _ h.hc),h.r3.keep k (no _ h.h3),h.r7.keep k (no _ h.h7),h.kk.then k (fun y hy=>.inr (Nat.le_trans h.hB (hS y hy))),h.hc,h.h3,h.h7,h.hB,Nat.le_trans h.sz k.size⟩
theorem LpI.keep0 (h:LpI w w1 ch C x3 c x7 a B) (k:Keep [] w1 w2):LpI w w2 ch C x3 c x7 a B:=h.far k (fun _ h=>nomatch h)
theorem LpI.new {x:Nat} (h:LpI w w1 ch C x3 c x7 a B) (k:Keep [x] w1 w2) (hx:B≤x):LpI w w2 ch C x3 c x7 a B:=h.far k (fun y hy=>by rw [List.mem_singleton.1 hy];exact hx)
end
theorem areB_iff {f:Nat→Nat→Nat} {a:Nat→Nat}:areB f a=true↔∀ o,o<24→∀ j,j<160→f o j=byF (a o) j:=by
 unfold areB
 exact @decide_eq_true_iff _ (Classical.propDecidable _)
theorem areB_self (a:Nat→Nat):areB (arB a) a=true:=areB_iff.2 fun o _ j _=>rfl
theorem arB_lt (a:Nat→Nat) (o j:Nat):arB a o j<256:=byF_lt _ _
def eq24 (a b:Nat→Nat):Bool:=(List.range 24).all fun j=>((a j:Nat):Int) == ((b j:Nat):Int)
theorem size_i24:szIs Tryz.prog 26 24=true:=by kernel_rfl
theorem ex24 (f:Nat→Value):((Array.range 24).map f).extract 0 (0+24)=(Array.range 24).map f:=by
 apply Array.ext
 ·simp
 ·intro i h1 h2
  simp
theorem eq_ar (d:Nat) (a b:Nat→Nat) (w:World):(Op.equalIn (d+4) 28 (agg 24 (arF a)) (agg 24 (arF b))).run Tryz.prog w = .ok (eq24 a b && true) w:=by
 unfold agg
 refine eqA_of Tryz.underlying28 (by kernel_rfl) ?_
 refine eqf_cons (by decide +kernel) (part_agg Tryz.underlying26 rfl size_i24) (part_agg Tryz.underlying26 rfl size_i24) ?_ eqf_nil
 rw [ex24,ex24]
 exact run_equalIn_arr (P:=Tryz.prog) (d+1) (fun j=>((a j:Nat):Int)) (fun j=>((b j:Nat):Int)) Tryz.underlying26 Tryz.underlying3 (by kernel_rfl) w
theorem neq_ar (x y:Operand) (a b:Nat→Nat) (w:World):(do eqGuard .neq 28 x y (agg 24 (arF a)) (agg 24 (arF b));binOp .neq 28 (agg 24 (arF a)) (agg 24 (arF b)):Sem Value).run Tryz.prog w = .ok (.bool (!(eq24 a b && true))) w:=by
 have h:=eq_ar 9996 a b w
 unfold agg at h ⊢
 rw [Sem.run_bind,run_eqGuard_agg w _ _ _ _ _ _ (by kernel_rfl),Result.andThen_ok,run_neq_struct,h]
 rfl
end Go.Proofs.YtaeikigfgfcadaaGreat
namespace Go.Proofs.YtaeikigfgfcadaaGreat
open Go.RowKit Go.ChangeShapes Go.WideShapes Go.Deep
inductive Kd where
 | int (k:IntKind)
 | bool
deriving DecidableEq
def Kd.ok:Kd→Value→Prop
 | .int k,v=>∃ x,v = .int k x∧(Lit.int k x).wf=true
 | .bool,v=>∃ b,v = .bool b
def kindAt (P:Program):Nat→TypeId→Nat→Option Kd
 | 0,_,_=>none
 | n+1,t,j=>match P.underlying t with
  | some (.int k)=>if j=0 then some (.int k) else none
  | some .bool=>if j=0 then some .bool else none
  | some (.struct fs)=>match fs.toList.find? (fun f=>decide (f.offset≤j) && decide (j<f.offset+P.cellsOf f.type)) with
   | some f=>kindAt P n f.type (j - f.offset)
   | none=>none
  | some (.array m e)=>if P.cellsOf e=0 then none else if j / P.cellsOf e<m then kindAt P n e (j % P.cellsOf e) else none
  | _=>none
section
variable {H:Type} {enc:TypeId × Value→H} {P:Program} {W:World} {base:Nat} {spare:Nat→Bool} {held:Bool}
theorem kind_ok:∀ (n:Nat) {t:TypeId} {j fuel:Nat} {cs:List Value} {x:DataW H × List MemPlace} {k:Kd},DataW.trod enc P W base spare held fuel t cs=some x→kindAt P n t j=some k→j<cs.length→∃ v,cs[j]?=some v∧k.ok v
 | 0,t,j,fuel,cs,x,k,h,hk,hj=>by cases hk
 | n+1,t,j,fuel,cs,x,k,h,hk,hj=>by
  unfold kindAt at hk
  split at hk
  ·rename_i kk hu
   split at hk
   ·rename_i h0
    subst h0
    injection hk with hk
    subst hk
    obtain ⟨m,rfl,_,hw⟩:=DataW.trod_int hu h
    exact ⟨_,rfl,m,rfl,hw⟩
   ·cases hk
  ·rename_i hu
   split at hk
   ·rename_i h0
    subst h0
    injection hk with hk
    subst hk
    obtain ⟨b,rfl,_⟩:=DataW.trod_bool hu h
    exact ⟨_,rfl,b,rfl⟩
   ·cases hk
  ·rename_i fs hu
   split at hk
   ·rename_i f hf
    have h1:=List.find?_some hf
    simp only [Bool.and_eq_true,decide_eq_true_eq] at h1
    obtain ⟨i,hi⟩:=List.getElem?_of_mem (List.mem_of_find?_eq_some hf)
    have hi':fs[i]?=some f:=by simpa using hi
    obtain ⟨xs,m,_,_,hlen,hxl,hff⟩:=DataW.trod_struct hu h
    have h2:=hff i f hi'
    have hil:i<xs.length:=by
     rw [hxl]
     exact (Array.getElem?_eq_some_iff.1 hi').1
    rw [List.getElem?_eq_getElem hil] at h2
    obtain ⟨v,hv,ho⟩:=kind_ok n h2 hk (by simp;omega)
    refine ⟨v,?_,ho⟩
    rw [List.getElem?_take,if_pos (by omega),List.getElem?_drop] at hv
    rwa [show f.offset+(j - f.offset)=j from by omega] at hv
   ·cases hk
  ·rename_i m e hu
   split at hk
   ·cases hk
   ·rename_i hc
    split at hk
    ·rename_i hjm
     obtain ⟨xs,m',_,_,hlen,hxl,hff⟩:=DataW.trod_array hu h
     have h2:=hff (j / P.cellsOf e) hjm
     rw [List.getElem?_eq_getElem (by omega)] at h2
     have hmod:j % P.cellsOf e<P.cellsOf e:=Nat.mod_lt _ (by omega)
     have hdm:j / P.cellsOf e * P.cellsOf e+j % P.cellsOf e=j:=by rw [Nat.mul_comm];exact Nat.div_add_mod j _
     obtain ⟨v,hv,ho⟩:=kind_ok n h2 hk (by simp;omega)
     refine ⟨v,?_,ho⟩
     rw [List.getElem?_take,if_pos hmod,List.getElem?_drop,hdm] at hv
     exact hv
    ·cases hk
  ·cases hk
theorem arg_flat {t:TypeId} {cs:Array Value} {d:DataW H} {ps:List MemPlace} (h:DataW.Trod enc P W base spare held t (.agg cs) d ps):∀ (j n:Nat) (k:Kd),j<cs.size→kindAt P n t j=some k→∃ v,cs[j]?=some v∧k.ok v:=by
 obtain ⟨fuel,hf⟩:=h
 intro j n k hj hk
 obtain ⟨v,hv,ho⟩:=kind_ok n hf hk (by simpa [Value.cells] using hj)
 exact ⟨v,by simpa [Value.cells] using hv,ho⟩
end
end Go.Proofs.YtaeikigfgfcadaaGreat
namespace Go.Proofs.YtaeikigfgfcadaaGreat
open Go.RowKit Go.ChangeShapes Go.WideShapes
theorem kd_i64 {v:Value} (h:(Kd.int .i64).ok v):v = .int .i64 (intOf v)∧i64R (intOf v):=by
 obtain ⟨x,rfl,hw⟩:=h
 exact ⟨rfl,bounds_i64 hw⟩
section
variable {H:Type} {enc:TypeId × Value→H} {W:World} {base:Nat} {spare:Nat→Bool} {held:Bool}
theorem cl_arg {cs:Array Value} {d:DataW H} {ps:List MemPlace} (hs:cs.size=3) (h:DataW.Trod enc Tryz.prog W base spare held 36 (.agg cs) d ps):∃ c:Cl,Value.agg cs=agg 3 c.cell∧c.wf:=by
 obtain ⟨v0,e0,h0⟩:=arg_flat h 0 5 (.int .i64) (by omega) (by kernel_rfl)
 obtain ⟨v1,e1,h1⟩:=arg_flat h 1 5 (.int .i64) (by omega) (by kernel_rfl)
 obtain ⟨v2,e2,h2⟩:=arg_flat h 2 5 (.int .i64) (by omega) (by kernel_rfl)
 obtain ⟨g0,b0⟩:=kd_i64 h0
 obtain ⟨g1,b1⟩:=kd_i64 h1
 obtain ⟨g2,b2⟩:=kd_i64 h2
 refine ⟨⟨intOf v0,intOf v1,intOf v2⟩,?_,b0,b1,b2⟩
 unfold agg
 congr 1
 apply Array.ext
 ·simp [hs]
 ·intro j q1 q2
  have hj:j<3:=by omega
  have:j=0∨j=1∨j=2:=by omega
  simp only [Array.getElem_map,Array.getElem_range]
  rcases this with rfl | rfl | rfl
  ·rw [Array.getElem?_eq_getElem q1] at e0;injection e0 with e0;rw [e0];exact g0
  ·rw [Array.getElem?_eq_getElem q1] at e1;injection e1 with e1;rw [e1];exact g1
  ·rw [Array.getElem?_eq_getElem q1] at e2;injection e2 with e2;rw [e2];exact g2
end
end Go.Proofs.YtaeikigfgfcadaaGreat

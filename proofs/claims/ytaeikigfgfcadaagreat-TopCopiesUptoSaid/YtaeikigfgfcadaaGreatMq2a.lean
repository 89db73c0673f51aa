/- Texts behind one another: RPutGet, RTag, RTag2, Truth, Marked3, Truths, Read9, RefLiveT, OnCh. -/
import Derived.Test.YtaeikigfgfcadaaGreatMq0a
import Derived.Test.YtaeikigfgfcadaaGreatMq0b
import Derived.Test.YtaeikigfgfcadaaGreatMq0c
import Derived.Test.YtaeikigfgfcadaaGreatMq0d
import Derived.Test.YtaeikigfgfcadaaGreatMq0e
import Derived.Test.YtaeikigfgfcadaaGreatMq0f
import Derived.Test.YtaeikigfgfcadaaGreatMq1a
set_option linter.unusedVariables false
set_option linter.unusedSimpArgs false
set_option linter.unnecessarySimpa false
namespace Go.Proofs.YtaeikigfgfcadaaGreat
open Go.RowKit
def RPutPost (v:Int) (n:Nat) (w:World) (e:Ending) (w':World):Prop :=
 ∃ x,e = .returned (.tuple #[x,.bool (v / 256 ^ n == 0)])∧w'.ownsRow w.heap.size 5 1 x n ((List.range n).map fun j=>.int .u8 (byteOf v j))∧Keep [] w w'
set_option maxHeartbeats 1000000 in
theorem rput_ok (v : Int) (n : Nat) (w : World) (h0 : 0 ≤ v) (h1 : v ≤ 18446744073709551615) (hn8 : n ≤ 8) :
    Calls Tryz.prog 139 #[.int .u64 v, .int .i64 n] w (RPutPost v n w) := by
  obtain ⟨i0, hi, hz0, hz1, hz2⟩ := info_parts byte_info
  have hp : v = v / 256 ^ 0 := by simp
  have HP := Lib.hid hp; clear hp
  go_enter Tryz.func139, Tryz.ntmps139
  go_wp2
  go_loopw [0, 6, 7] (fun x vl i wr => ∃ (k : Nat) (l : Value), k ≤ n ∧ l = vl ∧ i = .int .i64 k ∧ x = .int .u64 (v / 256 ^ k) ∧ Keep [] w wr ∧ wr.ownsRow w.heap.size 5 1 l k ((List.range k).map fun j => .int .u8 (byteOf v j))) (fun _ _ i _ => n - (intOf i).toNat)
  case atStart => exact ⟨0, _, by omega, rfl, rfl, by rw [← HP.out], Keep.refl _ _, own_nil _ _ _⟩
  case round =>
    clear HP
    obtain ⟨k, l, hk, rfl, rfl, rfl, kk, own⟩ := hrel
    have hx0 : 0 ≤ v / 256 ^ k := Int.ediv_nonneg h0 (Int.le_of_lt (Int.pow_pos (by omega)))
    have hx1 : v / 256 ^ k ≤ 18446744073709551615 := Int.le_trans (Int.ediv_le_self _ h0) h1
    have HS := Lib.hid (pow_step v k)
    have HB : Hid (byteOf v k = v / 256 ^ k % 256) := rfl
    by_cases hlt : k < n
    · generalize v / 256 ^ k = x at hx0 hx1 HS HB
      have hsz := kk.size
      go_wp2_with (at_builtin
                   refine wpList_append_rd rfl (.tmp 13) (.tmp 17) 37 rfl w.heap.size 5 i0 _ 1 Tryz.underlying37 hi hz0 hz1 hz2 rfl l k _ rfl (own.alloc _) (some ⟨wr.heap.size, 0, none⟩) 1 1 (fun _ => .int .u8 (x % 256)) rfl (rd_one (heap_alloc_new _ _)) (Nat.le_refl _) (fun e => by cases e) (fun _ _ => rfl) (by simp only [maxLen]; omega) (by omega) (by simp; omega) ?_
                   intro v2 w2 own2 g2 at2
                   have k2 := (kk.alloc _).grown g2 (by
                     intro q hq
                     right
                     obtain ⟨A, c, rfl, _, ha⟩ := own_slice own
                     cases A with
                     | none => cases hq
                     | some a => injection hq with hq; subst hq; exact (ha a rfl).1)
                   clear own g2 at2 kk hsz)
      go_roundw
      case rel => exact ⟨k + 1, v2, by omega, rfl, by go_num, by rw [HS.out], k2, by
        have e := map_range_succ k (fun j => .int .u8 (byteOf v j))
        rw [← e, show (fun (_ : Nat) => Value.int .u8 (byteOf v k)) = fun _ => .int .u8 (x % 256) from by rw [HB.out]]
        exact own2⟩
      case measure => simp [intOf] <;> omega
    · obtain rfl : k = n := by omega
      generalize hx : v / 256 ^ k = x at hx0 hx1
      have HX := Lib.hid hx; clear hx
      go_wp2
      go_ret2
      exact ⟨l, ret_eq (by rw [HX.out]; rfl), own, kk⟩
theorem pow_le7 (k:Nat) (hk:k≤7):(256:Int) ^ k≤72057594037927936:=by
 have h:k=0∨k=1∨k=2∨k=3∨k=4∨k=5∨k=6∨k=7:=by omega
 rcases h with rfl | rfl | rfl | rfl | rfl | rfl | rfl | rfl<;>decide
theorem numOf_ext (f g:Nat→Int) (n:Nat) (h:∀ j,j<n→f j=g j):numOf f n=numOf g n:=by
 induction n generalizing f g with
 | zero=>rfl
 | succ n ih=>rw [numOf_succ,numOf_succ,h 0 (by omega),ih _ _ (fun j hj=>h (j+1) (by omega))]
set_option maxHeartbeats 1000000 in
theorem rget_ok (A:Option Addr) (n c:Nat) (f:Nat→Int) (w:World) (r:Rd w A n (fun j=>.int .u8 (f j))) (hf:∀ j,0≤f j∧f j≤255) (hn8:n≤8) :
  Calls Tryz.prog 84 #[.slice A n c] w fun e w'=>e = .returned (.int .u64 (numOf f n))∧w=w':=by
 go_enter Tryz.func84,Tryz.ntmps84
 go_wp2
 go_loop [3,4] (fun x i=>∃ m:Nat,m≤n∧i = .int .i64 ((m:Int) - 1)∧x = .int .u64 (numOf (fun j=>f (m+j)) (n - m))) (fun _ i=>(intOf i+1).toNat)
 case atStart=>exact ⟨n,by omega,rfl,by rw [Nat.sub_self];rfl⟩
 case round =>
  obtain ⟨m,hm,rfl,rfl⟩:=hrel
  by_cases hlt:0<m
  ·obtain ⟨k,rfl⟩:∃ k,m=k+1:=⟨m - 1,by omega⟩
   rw [show ((k+1:Nat):Int) - 1=(k:Int) from by omega]
   obtain ⟨b,o,rfl,hc⟩:=r (by omega)
   have hck:w.cell? ⟨b,o+k,none⟩=some (.int .u8 (f k)):=hc k (by omega)
   clear hc r
   obtain ⟨f0,f1⟩:=hf k
   obtain ⟨x0,x1⟩:=numOf_bd (fun j=>f (k+1+j)) (fun j=>hf _) (n - (k+1))
   have hx:numOf (fun j=>f (k+1+j)) (n - (k+1))<72057594037927936:=Int.lt_of_lt_of_le x1 (pow_le7 _ (by omega))
   have hs:numOf (fun j=>f (k+j)) (n - k)=f k+256 * numOf (fun j=>f (k+1+j)) (n - (k+1)):=by
    rw [show n - k=(n - (k+1))+1 from by omega,numOf_succ]
    rw [numOf_ext (fun j=>f (k+(j+1))) (fun j=>f (k+1+j)) _ (fun j _=>by rw [show k+(j+1)=k+1+j from by omega])]
    rfl
   have HS:=Lib.hid hs
   clear x1 hs
   generalize numOf (fun j=>f (k+1+j)) (n - (k+1))=x at x0 hx HS
   generalize f k=y at f0 f1 hck HS
   go_wp2
   go_round
   case rel=>exact ⟨k,by omega,by go_num,by rw [HS.out];congr 1;omega⟩
   case measure=>simp [intOf]<;>omega
  ·obtain rfl:m=0:=by omega
   have hs:numOf (fun j=>f (0+j)) (n - 0)=numOf f n:=by
    rw [Nat.sub_zero]
    exact numOf_ext _ _ _ (fun j _=>by rw [Nat.zero_add])
   rw [hs]
   go_wp2
   go_ret
   exact ⟨rfl,rfl⟩
set_option maxHeartbeats 1000000 in
theorem may_ok (t:Tg) (w:World):Spec Tryz.prog 85 #[.agg t.arr] w fun v w'=>v = .bool (decide t.ok)∧Keep [] w w':=by
 have h0:∀ {g:Nat} {w:World},Row w g 67 5 t.cell→w.cell? ⟨g,0,none⟩=some (.int .i64 t.place)∧w.cell? ⟨g,1,none⟩=some (.int .i64 t.of)∧w.cell? ⟨g,2,none⟩=some (.int .i64 t.seq)∧w.cell? ⟨g,3,none⟩=some (.int .i64 t.copy)∧w.cell? ⟨g,4,none⟩=some (.bool t.lost):=fun r=>⟨r.cell 0 (by omega),r.cell 1 (by omega),r.cell 2 (by omega),r.cell 3 (by omega),r.cell 4 (by omega)⟩
 have hno:¬ t.ok→decide t.ok=false:=decide_eq_false
 have hyes:t.ok→decide t.ok=true:=decide_eq_true
 generalize hx:decide t.ok=x at hno hyes ⊢
 unfold Tg.ok at hno hyes
 refine spec_of_wpE (T:=tt) tt_ok Tryz.func85 rfl (by decide +kernel) Tryz.ntmps85 (by simp) ?_
 conv=>whnf
 refine Ru.boxtg ?_
 intro g w1 hg hs r k1
 obtain ⟨c0,c1,c2,c3,c4⟩:=h0 r
 clear h0 r hx
 generalize t.place=a0 at *
 generalize t.of=a1 at *
 generalize t.seq=a2 at *
 generalize t.copy=a3 at *
 cases hl:t.lost<;>rw [hl] at c4 hno hyes
 all_goals
  conv=>whnf
  repeat' ((first
   | refine Br.t ?_|refine Br.f ?_|refine Pk.f ?_|refine Pk.t ?_|refine Dv.r ?_|refine Ld.of (by assumption) ?_|refine CW.s ?_|refine Br.d (fun _=>?_) (fun _=>?_))<;>conv=>whnf)
  all_goals
   first
    | exact ⟨rfl,vb (hno (fun h=>by simp at h;omega)).symm,k1⟩
    | exact ⟨rfl,vb (hyes (by simp;omega)).symm,k1⟩
    | (refine ⟨rfl,vb ?_,k1⟩;by_cases h6:a0 % 8<6<;>first | (rw [hyes (by simp;omega)];simpa using h6) | (rw [hno (fun h=>by simp at h;omega)];simpa using h6))
theorem rput_sp (v:Int) (n:Nat) (w:World) (h0:0≤v) (h1:v≤18446744073709551615) (hn8:n≤8) :
  Spec Tryz.prog 139 #[.int .u64 v,.int .i64 n] w fun u w'=>∃ A c b,u = .tuple #[.slice A n c,.bool b]∧n≤c∧(A=none→c=0)∧Rd w' A n (fun j=>.int .u8 (byteOf v j))∧Keep [] w w':=by
 refine ⟨by kernel_rfl,(rput_ok v n w h0 h1 hn8).mono ?_⟩
 rintro e w' ⟨x,rfl,own,k⟩
 obtain ⟨A,c,rfl,ha,_⟩:=own_slice own
 exact ⟨_,rfl,A,c,_,rfl,ha.le,ha.none_,ha.rd.congr (fun j hj=>by simp [List.getD_eq_getElem?_getD,hj]),k⟩
theorem rget_sp (A:Option Addr) (n c:Nat) (f:Nat→Int) (w:World) (r:Rd w A n (fun j=>.int .u8 (f j))) (hf:∀ j,0≤f j∧f j≤255) (hn8:n≤8) :
  Spec Tryz.prog 84 #[.slice A n c] w fun v w'=>v = .int .u64 (numOf f n)∧w=w':=Spec.of_calls (by kernel_rfl) (rget_ok A n c f w r hf hn8)
def BodyPost (t:Tg) (w:World) (v:Value) (w':World):Prop:=∃ Y d,v = .slice Y 50 d∧Own w w' Y 50 d (bodyF t)
set_option maxHeartbeats 2000000 in
theorem rbody_ok (t:Tg) (ht:t.ok) (w:World):Spec Tryz.prog 87 #[.agg t.arr] w (BodyPost t w):=by
 unfold Tg.ok at ht
 refine spec_of_wpE (T:=tt) tt_ok Tryz.func87 rfl (by decide +kernel) Tryz.ntmps87 (by simp) ?_
 conv=>whnf
 refine Ru.boxtg ?_
 intro g w1 hg hs r k1
 conv=>whnf
 repeat ((first
  | (refine Ld.row r (by omega) ?_)
  | refine Ar.lc ?_);conv=>whnf)
 refine Ca.of (rput_sp t.place 2 _ (by omega) (by omega) (by omega)) ?_
 rintro _ w2 ⟨A,cA,ba,rfl,qA,nA,rA,k2⟩
 have r2:=r.keep k2 (by simp)
 conv=>whnf
 repeat ((first
  | (refine Ld.row r2 (by omega) ?_)
  | refine Ar.lc ?_);conv=>whnf)
 refine Ca.of (rput_sp t.seq 5 _ (by omega) (by omega) (by omega)) ?_
 rintro _ w3 ⟨B,cB,bb,rfl,qB,nB,rB,k3⟩
 have r3:=r2.keep k3 (by simp)
 have rA:=rA.keep0 k3
 conv=>whnf
 refine CW.cut (ι:=Unit) (fun _ w'=>w3=w') (fun _=>[(1,.pointer (some ⟨g,0,none⟩)),(3,.slice A 2 cA),(5,.slice B 5 cB),(7,.int .u8 (if t.lost then 1 else 0))]) tt_ok ?_ ?_
 ·have c4:w3.cell? ⟨g,4,none⟩=some (.bool t.lost):=r3.cell 4 (by omega)
  cases hl:t.lost<;>rw [hl] at c4
  ·conv=>whnf
   repeat ((first
    | (refine Ld.at (by omega) c4 ?_)
    | refine Br.f ?_);conv=>whnf)
   exact ⟨(),rfl,rfl,rfl,rfl,rfl,trivial⟩
  ·conv=>whnf
   repeat ((first
    | (refine Ld.at (by omega) c4 ?_)
    | refine Br.t ?_);conv=>whnf)
   exact ⟨(),rfl,rfl,rfl,rfl,rfl,trivial⟩
 rintro _ _ rfl
 conv=>whnf
 refine Ru.mkb (n:=0) (Keep.refl [] w3) (by omega) ?_
 intro g4 w4 hg4 hs4 O k4
 clear k4 hs4 hg4
 conv=>whnf
 refine Bu.grow O _ (rA.keep0 O.keep) qA nA (by omega) ?_
 intro Y5 d5 w5 O k5
 clear k5
 have r5:=r3.keep O.keep (by simp)
 conv=>whnf
 repeat ((first
  | (refine Ld.row r5 (by omega) ?_)
  | refine Ar.lb ?_);conv=>whnf)
 refine Ru.b1 ?_
 intro g6 w6 hg6 r6 k6
 have O:=O.keep0 k6
 conv=>whnf
 refine Bu.grow O _ r6 (by omega) (by simp) (by omega) ?_
 intro Y7 d7 w7 O k7
 clear k7 r6
 conv=>whnf
 refine Bu.grow O _ (rB.keep0 O.keep) qB nB (by omega) ?_
 intro Y8 d8 w8 O k8
 clear k8
 have r8:=r3.keep O.keep (by simp)
 conv=>whnf
 repeat ((first
  | (refine Ld.row r8 (by omega) ?_)
  | refine Ar.lb ?_);conv=>whnf)
 refine Ru.b2 ?_
 intro g9 w9 hg9 r9 k9
 have O:=O.keep0 k9
 conv=>whnf
 refine Bu.grow O _ r9 (by omega) (by simp) (by omega) ?_
 intro Y d w10 O k10
 clear k10 r9
 have O:Own w3 w10 Y 10 d (bodyF t):=O.congr (fun j hj=>by
  have:j=0∨j=1∨j=2∨j=3∨j=4∨j=5∨j=6∨j=7∨j=8∨j=9:=by omega
  have a2:=byte0 (v:=t.of) (by omega) (by omega)
  have a8:=byte0 (v:=t.copy) (by omega) (by omega)
  have a9:byteOf (if t.lost=true then 1 else 0) 0=if t.lost=true then 1 else 0:=by cases t.lost<;>rfl
  rcases this with rfl | rfl | rfl | rfl | rfl | rfl | rfl | rfl | rfl | rfl<;>first | rfl | exact a2.symm | exact a8.symm | exact a9.symm)
 conv=>whnf
 repeat ((first
  | refine CW.s ?_);conv=>whnf)
 refine CW.loop (ι:=Nat × Option Addr × Nat) (fun i wr=>(10≤i.1∧i.1≤50)∧Own w3 wr i.2.1 i.1 i.2.2 (bodyF t)) (fun i=>[(8,.slice i.2.1 i.1 i.2.2)]) (fun i=>50 - i.1) (10,Y,d) tt_ok ⟨by simp,O⟩ ⟨rfl,trivial⟩ ?_
 rintro ⟨i,X,c⟩ wr ⟨⟨hi1,hi2⟩,O⟩
 simp only at hi1 hi2 O
 by_cases hlt:i<50
 ·conv=>whnf
  repeat ((first
   | refine Br.y ?_|refine CW.s ?_);conv=>whnf)
  refine Ru.b1 ?_
  intro g6 w6 hg6 r6 k6
  have O:=O.keep0 k6
  conv=>whnf
  refine Bu.grow O _ r6 (by omega) (by simp) (by omega) ?_
  intro Z e w7 O k7
  conv=>whnf
  exact ⟨(i+1,Z,e),⟨⟨by simp only;omega,by simp only;omega⟩,O.congr (fun j hj=>by
   by_cases h:j<i
   ·rw [if_pos h]
   ·rw [if_neg h]
    unfold bodyF
    rw [if_neg (by omega),if_neg (by omega),if_neg (by omega),if_neg (by omega),if_neg (by omega)])⟩,⟨rfl,trivial⟩,by simp only;omega⟩
 ·obtain rfl:i=50:=by omega
  conv=>whnf
  repeat ((first
   | refine Br.f ?_|refine CW.s ?_);conv=>whnf)
  exact ⟨rfl,X,c,rfl,O.from ((k1.trans k2).trans k3)⟩
end Go.Proofs.YtaeikigfgfcadaaGreat
namespace Go.Proofs.YtaeikigfgfcadaaGreat
open Go.RowKit
theorem same_sp (A B:Option Addr) (n m c d:Nat) (f g:Nat→Int) (w:World) (r0:Rd w A n (fun j=>.int .u8 (f j))) (r1:Rd w B m (fun j=>.int .u8 (g j))) (h0:n≤maxLen) (h1:m≤maxLen) :
  Spec Tryz.prog 86 #[.slice A n c,.slice B m d] w fun v w'=>v = .bool (sameB n m f g)∧Keep [] w w':=by
 refine ⟨by kernel_rfl,(same_ok A B n m c d f g w r0 r1 h0 h1).mono ?_⟩
 rintro e w' ⟨rfl,k⟩
 exact ⟨_,rfl,rfl,(Keep.refl [] w).drawn k⟩
theorem rd50 {w:World} {b o:Nat} {f:Nat→Int} (h:∀ j,j<50→w.cell? ⟨b,o+j,none⟩=some (.int .u8 (f j))):Rd w (some ⟨b,o,none⟩) 50 (fun j=>.int .u8 (f j)):=fun _=>⟨b,o,rfl,h⟩
open Classical in
noncomputable def tagV (f:Nat→Int):Tg × Bool:=if decOk f then (decT f,true) else (Tg.zero,false)
theorem tagV_bad {f:Nat→Int} (h:¬ decOk f):tagV f=(Tg.zero,false):=if_neg h
theorem tagV_ok {f:Nat→Int} (h:decOk f):tagV f=(decT f,true):=if_pos h
set_option maxHeartbeats 4000000 in
theorem rtag_ok (A:Option Addr) (c:Nat) (f:Nat→Int) (w:World) (r:Rd w A 50 (fun j=>.int .u8 (f j))) (hf:∀ j,0≤f j∧f j≤255) (hn:50≤c) (hm:c≤maxLen) :
  Spec Tryz.prog 55 #[.slice A 50 c] w fun v w'=>v = .tuple #[.agg (tagV f).1.arr,.bool (tagV f).2]∧Keep [] w w':=by
 obtain ⟨b,o,rfl,hc⟩:=r (by omega)
 have n2:numOf f 2<65536:=(numOf_bd f hf 2).2
 have n5:numOf (fun j=>f (3+j)) 5<1099511627776:=(numOf_bd (fun j=>f (3+j)) (fun j=>hf _) 5).2
 have m2:=(numOf_bd f hf 2).1
 have m5:=(numOf_bd (fun j=>f (3+j)) (fun j=>hf _) 5).1
 have f2:=hf 2
 have f8:=hf 8
 have f9:=hf 9
 refine spec_of_wpE (T:=tt) tt_ok Tryz.func55 rfl (by decide +kernel) Tryz.ntmps55 (by simp) ?_
 conv=>whnf
 refine Ru.alloctg ?_
 intro g w1 hg hs1 r1 k1
 have hc1:∀ j,j<50→w1.cell? ⟨b,o+j,none⟩=some (.int .u8 (f j)):=fun j hj=>(k1.cell (p:=⟨b,o+j,none⟩) (cell_lt (hc j hj)) (by simp)).trans (hc j hj)
 conv=>whnf
 refine CW.held (fun w'=>∀ j,j<50→w'.cell? ⟨b,o+j,none⟩=some (.int .u8 (f j))) [22] (.take 0 (.take 1 (.take 4 (.take 5 (.take 6 (.take 7 (.take 8 (.take 9 (.take 12 (.take 13 (.take 14 (.take 15 (.take 16 (.take 17 (.take 18 (.take 19 (.two 2 (.take 3 (.two 10 (.take 11 (.take 20 (.one 21 (.one 22 (.done))))) 21 (.one 10 (.take 11 (.take 20 (.one 22 (.done))))))) 21 (.one 2 (.take 3 (.one 10 (.take 11 (.take 20 (.one 22 (.done)))))))))))))))))))))))) tt_ok (by kernel_rfl) (by kernel_rfl) (by kernel_rfl) ?_ ?_
 ·exact hc1
 have hcd:∀ j,j<50→(w1.drewN 1).cell? ⟨b,o+j,none⟩=some (.int .u8 (f j)):=hc1
 have kd:Keep [] w1 (w1.drewN 1):=(Keep.refl [] w1).drewN 1
 conv=>whnf
 repeat ((first
  | (refine LdQ.at rfl (fun _ h=>h _ (by omega)) ?_)
  | (refine Ix.of 2 rfl (by omega) ?_)
  | (refine Ix.of 8 rfl (by omega) ?_)
  | (refine Ix.of 9 rfl (by omega) ?_)
  | (refine RuQ.sl_h Tryz.underlying37 byte_is (h:=2) (by omega) ?_)
  | (refine RuQ.sl_lh Tryz.underlying37 byte_is (l:=3) (h:=8) (by omega) (by omega) (by omega) ?_)
  | refine Ar.la ?_);conv=>whnf)
 refine ⟨?a,?b⟩
 case' a =>
  conv=>whnf
  refine Ca.of (rget_sp _ 2 c f _ ((rd50 hcd).mono_len (by omega)) hf (by omega)) ?_
  rintro _ _ ⟨rfl,rfl⟩
  conv=>whnf
  refine ⟨hcd,?_⟩
  conv=>whnf
  repeat ((first
   | refine Ar.la ?_);conv=>whnf)
  refine ⟨?c,?d⟩
  case' c =>
   conv=>whnf
   refine Ca.of (rget_sp _ 5 (c - 3) (fun j=>f (3+j)) _ ((rd50 hcd).part (k:=3) (m:=5) (by omega)) (fun j=>hf _) (by omega)) ?_
   rintro _ _ ⟨rfl,rfl⟩
   conv=>whnf
   refine ⟨hcd,?_⟩
   conv=>whnf
   repeat ((first
    | refine Ar.la ?_);conv=>whnf)
   refine RuQ.of (fun _ _=>build_tg _ _ _ _ _ _) ?_
   conv=>whnf
   refine Ru.alloctg ?_
   intro g7 w2 hg7 hs2 r7 k2
   have k2':Keep [] w1 w2:=kd.trans k2
   have hc2:∀ j,j<50→w2.cell? ⟨b,o+j,none⟩=some (.int .u8 (f j)):=fun j hj=>(k2'.cell (p:=⟨b,o+j,none⟩) (cell_lt (hc1 j hj)) (by simp)).trans (hc1 j hj)
   conv=>whnf
   refine ⟨hc2,?_⟩
   conv=>whnf
   refine Ru.sttg (t:=decT f) r7 ?_
   intro w3 r7 k3
  case' d =>
   conv=>whnf
   refine Ru.alloctg ?_
   intro g7 w2 hg7 hs2 r7 k2
   have k2':Keep [] w1 w2:=kd.trans k2
   have hc2:∀ j,j<50→w2.cell? ⟨b,o+j,none⟩=some (.int .u8 (f j)):=fun j hj=>(k2'.cell (p:=⟨b,o+j,none⟩) (cell_lt (hc1 j hj)) (by simp)).trans (hc1 j hj)
   conv=>whnf
   refine ⟨hc2,?_⟩
   conv=>whnf
   refine Ca.of (rget_sp _ 5 (c - 3) (fun j=>f (3+j)) _ ((rd50 hc2).part (k:=3) (m:=5) (by omega)) (fun j=>hf _) (by omega)) ?_
   rintro _ _ ⟨rfl,rfl⟩
   conv=>whnf
   refine ⟨hc2,?_⟩
   conv=>whnf
   repeat ((first
    | refine Ar.la ?_);conv=>whnf)
   refine RuQ.of (fun _ _=>build_tg _ _ _ _ _ _) ?_
   conv=>whnf
   refine Ru.sttg (t:=decT f) r7 ?_
   intro w3 r7 k3
 case' b =>
  conv=>whnf
  refine Ru.alloctg ?_
  intro g7 w2 hg7 hs2 r7 k2
  have k2':Keep [] w1 w2:=kd.trans k2
  have hc2:∀ j,j<50→w2.cell? ⟨b,o+j,none⟩=some (.int .u8 (f j)):=fun j hj=>(k2'.cell (p:=⟨b,o+j,none⟩) (cell_lt (hc1 j hj)) (by simp)).trans (hc1 j hj)
  conv=>whnf
  refine ⟨hc2,?_⟩
  conv=>whnf
  refine Ca.of (rget_sp _ 2 c f _ ((rd50 hc2).mono_len (by omega)) hf (by omega)) ?_
  rintro _ _ ⟨rfl,rfl⟩
  conv=>whnf
  refine ⟨hc2,?_⟩
  conv=>whnf
  repeat ((first
   | refine Ar.la ?_);conv=>whnf)
  refine Ca.of (rget_sp _ 5 (c - 3) (fun j=>f (3+j)) _ ((rd50 hc2).part (k:=3) (m:=5) (by omega)) (fun j=>hf _) (by omega)) ?_
  rintro _ _ ⟨rfl,rfl⟩
  conv=>whnf
  refine ⟨hc2,?_⟩
  conv=>whnf
  repeat ((first
   | refine Ar.la ?_);conv=>whnf)
  refine RuQ.of (fun _ _=>build_tg _ _ _ _ _ _) ?_
  conv=>whnf
  refine Ru.sttg (t:=decT f) r7 ?_
  intro w3 r7 k3
 all_goals
  have hbad:¬ ((decT f).ok∧∀ j,j<50→bodyF (decT f) j=f j)→tagV f=(Tg.zero,false):=tagV_bad
  have hgood:((decT f).ok∧∀ j,j<50→bodyF (decT f) j=f j)→tagV f=(decT f,true):=tagV_ok
  generalize decT f=t at *
  have k13:Keep [] w1 w3:=k2'.then k3 (fun x hx=>.inr (by rw [List.mem_singleton.1 hx,hg7];exact Nat.le_refl _))
  conv=>whnf
  refine Ru.ldtg r7 ?_
  conv=>whnf
  refine Ca.of (may_ok t w3) ?_
  rintro _ w4 ⟨rfl,k4⟩
  have r7:=r7.keep k4 (by simp)
  have k14:=k13.trans k4
  have kend:∀ w8 w9,Keep [] w4 w8→Keep [g] w8 w9→Keep [] w w9:=fun w8 w9 k8 k9=>((k1.trans k14).trans k8).then k9 (fun x hx=>.inr (by rw [List.mem_singleton.1 hx,hg];exact Nat.le_refl _))
  have r1:=r1.keep k14 (by simp)
  by_cases hok:t.ok
  case neg =>
   rw [hbad (fun h=>hok h.1),decide_eq_false hok]
   conv=>whnf
   repeat ((first
    | refine Br.t ?_|refine CW.s ?_);conv=>whnf)
   refine Ru.of (build_tg0 _) ?_
   conv=>whnf
   refine Ru.sttg (t:=Tg.zero) r1 ?_
   intro w5 r5 k5
   conv=>whnf
   refine Ru.ldtg r5 ?_
   exact ⟨rfl,rfl,kend _ _ (Keep.refl _ _) k5⟩
  rw [decide_eq_true hok]
  conv=>whnf
  repeat ((first
   | refine Br.f ?_|refine CW.s ?_);conv=>whnf)
  refine Ru.ldtg r7 ?_
  conv=>whnf
  refine Ca.of (rbody_ok t hok w4) ?_
  rintro _ w5 ⟨Y,d,rfl,O⟩
  have k5:=O.keep
  conv=>whnf
  refine Ca.of (same_sp Y (some ⟨b,o,none⟩) 50 50 d c (bodyF t) f w5 O.ly.rd1 (rd50 (fun j hj=>((k14.trans k5).cell (p:=⟨b,o+j,none⟩) (cell_lt (hc1 j hj)) (by simp)).trans (hc1 j hj))) (by simp [maxLen]) (by simp [maxLen])) ?_
  rintro _ w6 ⟨rfl,k6⟩
  have k46:=k5.trans k6
  have r7:=r7.keep k46 (by simp)
  have r1:=r1.keep k46 (by simp)
  by_cases hs:∀ j,j<50→bodyF t j=f j
  ·rw [hgood ⟨hok,hs⟩,sameB_yes rfl hs]
   conv=>whnf
   repeat ((first
    | refine Br.f ?_|refine CW.s ?_);conv=>whnf)
   refine Ru.ldtg r7 ?_
   conv=>whnf
   refine Ru.sttg (t:=t) r1 ?_
   intro w7 r7 k7
   conv=>whnf
   refine Ru.ldtg r7 ?_
   exact ⟨rfl,rfl,kend _ _ k46 k7⟩
  ·have hs2:sameB 50 50 (bodyF t) f=false:=decide_eq_false (fun h=>hs h.2)
   rw [hbad (fun h=>hs h.2),hs2]
   conv=>whnf
   repeat ((first
    | refine Br.t ?_|refine CW.s ?_);conv=>whnf)
   refine Ru.of (build_tg0 _) ?_
   conv=>whnf
   refine Ru.sttg (t:=Tg.zero) r1 ?_
   intro w7 r7 k7
   conv=>whnf
   refine Ru.ldtg r7 ?_
   exact ⟨rfl,rfl,kend _ _ k46 k7⟩
end Go.Proofs.YtaeikigfgfcadaaGreat
namespace Go.Proofs.YtaeikigfgfcadaaGreat
open Go.RowKit
set_option maxRecDepth 20000
theorem run_sliceArr {P:Program} {t e:TypeId} {g o n sz:Nat} {w:World} (hu:P.underlying t=some (.array n e)) (hs:(P.info? e).map (·.size)=some sz):(Instr.sliceAt t (.pointer (some ⟨g,o,none⟩)) none none none).run P w = .ok (.slice (some ⟨g,o,none⟩) n n) w:=by
 obtain ⟨v,w',h1,h2⟩:=Ru.sliceArr (w:=w) (g:=g) (o:=o) (K:=fun v w'=>v=_∧w'=w) hu hs ⟨rfl,rfl⟩
 rw [h1,h2.1,h2.2]
set_option maxHeartbeats 1000000 in
theorem truth_ok (w:World) (c a k:Nat) (C:Chip) (H:ChipAt w c C) (ha:a<96) (hk:k<4):Spec Tryz.prog 82 #[.pointer (some ⟨c,0,none⟩),.int .i64 a,.int .i64 k] w fun v w'=>∃ Y e,v = .tuple #[.slice Y 64 e,.bool (C.ch a k).is,errOf 0]∧Own w w' Y 64 e (fun j=>((C.ch a k).truth j:Nat)):=by
 refine spec_of_wpE (T:=tt) tt_ok Tryz.func82 rfl (by decide +kernel) Tryz.ntmps82 (by simp) ?_
 conv=>whnf
 refine Ca.of (at_ok w c a k ha hk) ?_
 rintro _ _ ⟨rfl,rfl⟩
 conv=>whnf
 repeat ((first
  | refine Br.f ?_|refine Ru.neq_nil0 ?_|refine CW.s ?_);conv=>whnf)
 refine CW.held (fun w'=>ChipAt w' c C) [] (.take 0 (.take 1 (.take 2 (.take 3 (.take 5 (.take 6 (.take 7 (.take 8 (.one 4 (.take 9 (.take 10 (.take 11 (.done))))))))))))) tt_ok (by kernel_rfl) (by kernel_rfl) (by kernel_rfl) ?_ ?_
 ·exact H.drewN 1
 have k1:=(Keep.refl [] w).drewN 1
 have H1:=H.drewN 1
 generalize w.drewN 1=w1 at *
 conv=>whnf
 repeat ((first
  | (refine RuQ.of (fun w hS=>run_sliceArr Tryz.underlying90 byte_sz1) ?_)
  | (refine LdQ.at (by omega) (fun _ h=>ChipAt.is h ha hk) ?_));conv=>whnf)
 refine Bu.grow (Own.start w1 (fun _=>0)) (fun j=>((C.ch a k).truth j:Nat)) (fun _=>⟨c,cbase a k+64,rfl,fun j hj=>?_⟩) (by omega) (fun e=>by cases e) (by omega) ?_
 ·have h1:=H1.truth ha hk hj
  rw [Nat.add_assoc,h1]
 intro Y e w3 O3 k3
 refine ⟨H1.keep O3.keep (by simp),?_⟩
 conv=>whnf
 rw [Nat.zero_add] at *
 exact ⟨rfl,Y,e,rfl,(O3.congr (fun j hj=>by rw [if_neg (by omega),Nat.sub_zero])).from k1⟩
def MsgEnd (w:World) (f:Nat→Nat) (v:Value) (w':World):Prop:=∃ g e,v = .tuple #[.slice (some ⟨g,0,none⟩) 58 e,.bool true]∧w.heap.size≤g∧58≤e∧e≤maxLen∧(∀ j,j<58→w'.cell? ⟨g,j,none⟩=some (.int .u8 (f j:Nat)))∧Keep [] w w'
set_option maxHeartbeats 1000000 in
theorem message_some (w:World) (c a k:Nat) (C:Chip) (H:ChipAt w c C) (ha:a<96) (hk:k<4) (hi:(C.ch a k).is=true):Spec Tryz.prog 53 #[.pointer (some ⟨c,0,none⟩),.int .i64 a,.int .i64 k] w (MsgEnd w (C.ch a k).truth):=by
 refine spec_of_wpE (T:=tt) tt_ok Tryz.func53 rfl (by decide +kernel) Tryz.ntmps53 (by simp) ?_
 conv=>whnf
 refine Ca.of (truth_ok w c a k C H ha hk) ?_
 rintro _ w1 ⟨Y,e,rfl,O⟩
 rw [hi]
 obtain ⟨g,rfl,-,-⟩:=O.ly.at1 (j:=0) (by omega)
 have hle:=O.ly.1
 have hle2:=O.ly.2.1
 conv=>whnf
 repeat ((first
  | (refine Ru.sl_h Tryz.underlying37 byte_szI (h:=58) (by omega) ?_)
  | refine Br.f ?_|refine Pk.f ?_|refine Ru.neq_nil0 ?_|refine CW.s ?_);conv=>whnf)
 exact ⟨rfl,g,e,rfl,O.new g (List.mem_singleton.2 rfl),by omega,hle2,fun j hj=>by
  obtain ⟨g',e1,e2,-⟩:=O.ly.at1 (j:=j) (by omega)
  cases e1
  exact e2,O.keep⟩
set_option maxHeartbeats 1000000 in
theorem message_none (w:World) (c a k:Nat) (C:Chip) (H:ChipAt w c C) (ha:a<96) (hk:k<4) (hi:(C.ch a k).is=false):Spec Tryz.prog 53 #[.pointer (some ⟨c,0,none⟩),.int .i64 a,.int .i64 k] w fun v w'=>v = .tuple #[.slice none 0 0,.bool false]∧Keep [] w w':=by
 refine spec_of_wpE (T:=tt) tt_ok Tryz.func53 rfl (by decide +kernel) Tryz.ntmps53 (by simp) ?_
 conv=>whnf
 refine Ca.of (truth_ok w c a k C H ha hk) ?_
 rintro _ w1 ⟨Y,e,rfl,O⟩
 rw [hi]
 conv=>whnf
 repeat ((first
  | refine Br.t ?_|refine Br.f ?_|refine Pk.f ?_|refine Pk.t ?_|refine Ru.neq_nil0 ?_|refine CW.s ?_);conv=>whnf)
 exact ⟨rfl,rfl,O.keep⟩
def mk8:Array Value := #[.int .u8 112,.int .u8 97,.int .u8 116,.int .u8 105,.int .u8 110,.int .u8 97,.int .u8 48,.int .u8 49]
theorem build_mk (w:World):(Instr.buildSlice 37 8 #[(0,.int .u8 112),(1,.int .u8 97),(2,.int .u8 116),(3,.int .u8 105),(4,.int .u8 110),(5,.int .u8 97),(6,.int .u8 48),(7,.int .u8 49)]).run Tryz.prog w = .ok (.slice (some ⟨w.heap.size,0,none⟩) 8 8) (w.alloc (.cells mk8 5)):=by kernel_rfl
theorem mark3_ok (w:World):Spec Tryz.prog 83 #[] w fun v w'=>∃ g,v = .slice (some ⟨g,0,none⟩) 8 8∧g=w.heap.size∧Row w' g 5 8 (fun j=>.int .u8 (markF j))∧Keep [] w w':=by
 refine spec_of_wpE (T:=tt) tt_ok Tryz.func83 rfl (by decide +kernel) Tryz.ntmps83 (by simp) ?_
 conv=>whnf
 refine Ru.of (build_mk w) ?_
 conv=>whnf
 exact ⟨rfl,_,rfl,rfl,Row.of_arr (heap_alloc_new w _) (by kernel_rfl),(Keep.refl _ _).alloc _⟩
set_option maxHeartbeats 2000000 in
theorem marked3_ok (w:World) (x o c:Nat) (f:Nat→Int) (hc:∀ j,j<58→w.cell? ⟨x,o+j,none⟩=some (.int .u8 (f j))) (hm:Marked f):Spec Tryz.prog 54 #[.slice (some ⟨x,o,none⟩) 58 c] w fun v w'=>v = .bool true∧Keep [] w w':=by
 have hxw:x<w.heap.size:=cell_lt (hc 0 (by omega))
 refine spec_of_wpE (T:=tt) tt_ok Tryz.func54 rfl (by decide +kernel) Tryz.ntmps54 (by simp) ?_
 conv=>whnf
 refine Ca.of (mark3_ok w) ?_
 rintro _ w1 ⟨g,rfl,hg,r1,k1⟩
 conv=>whnf
 repeat ((first
  | refine CW.s ?_);conv=>whnf)
 refine CW.loop (ι:=Nat) (fun i w'=>i≤8∧Row w' g 5 8 (fun j=>.int .u8 (markF j))∧Keep [] w w') (fun i=>[(0,.slice (some ⟨x,o,none⟩) 58 c),(3,.slice (some ⟨g,0,none⟩) 8 8),(4,.int .i64 i)]) (fun i=>8 - i) 0 tt_ok ⟨by omega,r1,k1⟩ ⟨rfl,rfl,rfl,trivial⟩ ?_
 rintro i wr ⟨hi,r,kk⟩
 rcases Nat.lt_or_ge i 8 with hlt | hge
 ·have hcr:wr.cell? ⟨x,o+(50+i),none⟩=some (.int .u8 (markF i)):=by
   rw [kk.cell hxw (by simp),hc _ (by omega),hm i hlt]
  conv=>whnf
  repeat ((first
   | refine Br.y ?_|refine CW.s ?_);conv=>whnf)
  refine CW.held (fun w'=>Row w' g 5 8 (fun j=>.int .u8 (markF j))∧w'.cell? ⟨x,o+(50+i),none⟩=some (.int .u8 (markF i))) [] (.take 0 (.take 1 (.take 2 (.take 3 (.take 4 (.take 5 (.take 6 (.take 7 (.take 8 (.take 9 (.done))))))))))) tt_ok (by kernel_rfl) (by kernel_rfl) (by kernel_rfl) ?_ ?_
  ·exact ⟨r.drewN 1,hcr⟩
  have k2:=kk.drewN 1
  have r2:=r.drewN 1
  generalize wr.drewN 1=w2 at *
  conv=>whnf
  repeat ((first
   | (refine Ix.of (50+i) (by omega) (by omega) ?_)
   | (refine Ix.of i (by omega) (by omega) ?_)
   | (refine LdQ.at (by omega) (fun _ h=>h.2) ?_)
   | (refine LdQ.at (by omega) (fun _ h=>Row.cell h.1 i (by omega)) ?_)
   | refine Ar.la ?_|refine Br.ny ?_);conv=>whnf)
  exact ⟨i+1,⟨hlt,r2,k2⟩,⟨rfl,rfl,vi (by first | omega | (simp only;omega)),trivial⟩,by simp only;omega⟩
 ·obtain rfl:i=8:=by omega
  conv=>whnf
  repeat ((first
   | refine Br.f ?_|refine CW.s ?_);conv=>whnf)
  exact ⟨rfl,rfl,kk⟩
end Go.Proofs.YtaeikigfgfcadaaGreat
namespace Go.Proofs.YtaeikigfgfcadaaGreat
open Go.RowKit
set_option maxRecDepth 20000
theorem full_ch {C:Chip} {P:CS} (hA:Abs C P) {p:Nat} (hp:p<96) {t:Tg} {D:Nat→Nat} (e:P.pg p = .full t D) {k:Nat} (hk:k<4):(C.ch p k).is=true∧(C.ch p k).truth=encP D t k:=by
 have h:=hA.page p hp
 rw [e] at h
 exact h.2.2.2.2 k hk
theorem nofull_is {C:Chip} {P:CS} (hA:Abs C P) {p:Nat} (hp:p<96) (e:∀ t D,P.pg p≠.full t D):(C.ch p 3).is=false:=by
 have h:=hA.page p hp
 cases hg:P.pg p with
 | blank =>
  rw [hg] at h
  exact (h 3 (by omega)).1
 | torn n =>
  rw [hg] at h
  rw [(h.2.2 3 (by omega)).1]
  exact decide_eq_false (by have:=h.2.1;omega)
 | full t D=>exact absurd hg (e t D)
theorem encP_data (D:Nat→Nat) (t:Tg) {k j:Nat} (hk:k<3) (hj:j<58):encP D t k j=D (k * 58+j):=by
 unfold encP GF.encW
 rw [if_pos hj]
 unfold msg58 layF
 rw [if_pos (by omega)]
set_option maxHeartbeats 2000000 in
theorem tdata_ok (w:World) (c p:Nat) (C:Chip) (H:ChipAt w c C) {P:CS} (hA:Abs C P) (hp:p<96) {t:Tg} {D:Nat→Nat} (e:P.pg p = .full t D):Spec Tryz.prog 34 #[.pointer (some ⟨c,0,none⟩),.int .i64 p] w fun v w'=>∃ Y d,v = .slice Y 174 d∧Own w w' Y 174 d (fun j=>(D j:Nat)):=by
 refine spec_of_wpE (T:=tt) tt_ok Tryz.func34 rfl (by decide +kernel) Tryz.ntmps34 (by simp) ?_
 conv=>whnf
 repeat ((first
  | refine CW.s ?_);conv=>whnf)
 refine CW.loop (ι:=Nat × Option Addr × Nat) (fun i w'=>i.1≤3∧Own w w' i.2.1 (i.1 * 58) i.2.2 (fun j=>(D j:Nat))) (fun i=>[(0,.pointer (some ⟨c,0,none⟩)),(1,.int .i64 p),(5,.slice i.2.1 (i.1 * 58) i.2.2),(6,.int .i64 i.1)]) (fun i=>3 - i.1) (0,none,0) tt_ok ⟨by simp,Own.start w _⟩ ⟨rfl,rfl,rfl,rfl,trivial⟩ ?_
 rintro ⟨i,X,d⟩ wr ⟨hi,O⟩
 simp only at hi O ⊢
 rcases Nat.lt_or_ge i 3 with hlt | hge
 ·have Hr:=H.keep O.keep (by simp)
  obtain ⟨h1,h2⟩:=full_ch hA hp e (k:=i) (by omega)
  conv=>whnf
  repeat ((first
   | refine Br.y ?_|refine CW.s ?_);conv=>whnf)
  refine Ca.of (message_some wr c p i C Hr hp (by omega) h1) ?_
  rintro _ w2 ⟨g,b,rfl,hg,hb1,hb2,hc,k2⟩
  rw [h2] at hc
  have O2:=O.keep0 k2
  conv=>whnf
  repeat ((first
   | refine Br.f ?_|refine CW.s ?_);conv=>whnf)
  refine Bu.grow O2 (fun j=>((D (i * 58+j):Nat):Int)) (fun _=>⟨g,0,rfl,fun j hj=>?_⟩) hb1 (by simp) (by omega) ?_
  ·rw [Nat.zero_add,hc j hj,encP_data D t hlt hj]
  intro Y d2 w3 O3 k3
  conv=>whnf
  repeat ((first
   | refine Ar.la ?_);conv=>whnf)
  refine ⟨(i+1,Y,d2),⟨by simp only;omega,?_⟩,⟨rfl,rfl,?_,vi (by first | omega | (simp only;omega)),trivial⟩,by simp only;omega⟩
  ·simp only
   rw [show (i+1) * 58=i * 58+58 by omega]
   exact O3.congr (fun j hj=>by
    by_cases h:j<i * 58
    ·rw [if_pos h]
    ·rw [if_neg h,show i * 58+(j - i * 58)=j by omega])
  ·simp only
   rw [show (i+1) * 58=i * 58+58 by omega]
   exact rfl
 ·obtain rfl:i=3:=by omega
  conv=>whnf
  repeat ((first
   | refine Br.f ?_|refine CW.s ?_);conv=>whnf)
  exact ⟨rfl,X,d,rfl,O⟩
attribute [local irreducible] fdsTo
set_option maxHeartbeats 8000000 in
theorem truths_ok (w:World) (c:Nat) (C:Chip) (H:ChipAt w c C) {P:CS} (hA:Abs C P):Spec Tryz.prog 35 #[.pointer (some ⟨c,0,none⟩)] w fun v w'=>∃ Z cz,v = .slice Z (fdsTo P 96).length cz∧Ly w' 69 6 Z (fdsTo P 96).length cz (fdF (fdsTo P 96))∧(∀ x,x∈blk Z→w.heap.size≤x)∧Keep [] w w':=by
 obtain ⟨i0,hi0,hz0,hz1,hz2⟩:=info_parts found_info
 refine spec_of_wpE (T:=tt) tt_ok Tryz.func35 rfl (by decide +kernel) Tryz.ntmps35 (by simp) ?_
 conv=>whnf
 repeat ((first
  | refine CW.s ?_);conv=>whnf)
 refine CW.loop (ι:=Nat × Option Addr × Nat) (fun i w'=>i.1≤96∧Ly w' 69 6 i.2.1 (fdsTo P i.1).length i.2.2 (fdF (fdsTo P i.1))∧(∀ x,x∈blk i.2.1→w.heap.size≤x)∧Keep [] w w')
  (fun i=>[(0,.pointer (some ⟨c,0,none⟩)),(3,.slice i.2.1 (fdsTo P i.1).length i.2.2),(4,.int .i64 i.1)]) (fun i=>96 - i.1) (0,none,0) tt_ok ⟨by omega,by rw [fdsTo_zero];exact Ly.nil _ _ _ _,(fun _ h=>nomatch h),Keep.refl _ _⟩ ⟨rfl,by rw [fdsTo_zero];rfl,rfl,trivial⟩ ?_
 rintro ⟨i,Z,cz⟩ wr ⟨hi,ly,hZ,kk⟩
 simp only at hi ly hZ kk ⊢
 rcases Nat.lt_or_ge i 96 with hlt | hge
 ·have Hr:=H.keep kk (by simp)
  by_cases hfull:∃ t D,P.pg i = .full t D
  ·obtain ⟨t,D,hp⟩:=hfull
   have hpg:=hA.page i hlt
   rw [hp] at hpg
   obtain ⟨ht,hta,hD,-,hk⟩:=hpg
   obtain ⟨h1,h2⟩:=hk 3 (by omega)
   have efd:=fdsTo_full hp
   have hlen:=fdsTo_len P i
   obtain ⟨⟨hm,hdec,-⟩,hdT⟩:=tag_word hD ht hta (V:=(C.ch i 3).truth) (fun j hj=>by rw [h2])
   conv=>whnf
   repeat ((first
    | refine Br.y ?_|refine CW.s ?_);conv=>whnf)
   refine Ca.of (message_some wr c i 3 C Hr hlt (by omega) h1) ?_
   rintro _ w2 ⟨g,b,rfl,hg,hb1,hb2,hc,k2⟩
   conv=>whnf
   repeat ((first
    | refine Br.f ?_|refine CW.s ?_);conv=>whnf)
   refine Ca.of (marked3_ok w2 g 0 b (natI (C.ch i 3).truth) (fun j hj=>by rw [Nat.zero_add];exact hc j hj) hm) ?_
   rintro _ w3 ⟨rfl,k3⟩
   have hc3:∀ j,j<58→w3.cell? ⟨g,0+j,none⟩=some (.int .u8 (natI (C.ch i 3).truth j)):=fun j hj=>by
    rw [Nat.zero_add,k3.cell (cell_lt (hc j hj)) (by simp)]
    exact hc j hj
   conv=>whnf
   repeat ((first
    | (refine Ru.sl_h Tryz.underlying37 byte_szI (h:=50) (by omega) ?_));conv=>whnf)
   refine Ca.of (rtag_ok (some ⟨g,0,none⟩) b (natI (C.ch i 3).truth) w3 (fun _=>⟨g,0,rfl,fun j hj=>hc3 j (by omega)⟩) (fun j=>by unfold natI;have:=hA.wf.truth i 3 j;omega) (by omega) hb2) ?_
   rintro _ w4 ⟨rfl,k4⟩
   rw [tagV_ok hdec,hdT]
   have ly4:=((ly.keep0 k2).keep0 k3).keep0 k4
   have kk4:=((kk.trans k2).trans k3).trans k4
   clear hc hc3 k2 k3 k4 ly kk Hr
   conv=>whnf
   refine Ru.alloctg ?_
   intro x8 w5 hx8 hs5 r8 k5
   conv=>whnf
   refine Ru.sttg (t:=t) r8 ?_
   intro w6 r86 k6
   have q6:Keep [] w4 w6:=k5.then k6 (fun x hx=>.inr (by rw [List.mem_singleton.1 hx,hx8];exact Nat.le_refl _))
   have ly6:=ly4.keep0 q6
   have kk6:=kk4.trans q6
   have c80:w6.cell? ⟨x8,0,none⟩=some (.int .i64 (i:Nat)):=by
    have:=r86.cell 0 (by omega)
    rw [this]
    show some (Value.int .i64 t.place)=_
    rw [hta]
   clear k5 k6 q6 r8 hs5 ly4 kk4
   conv=>whnf
   repeat ((first
    | (refine Ld.at (by omega) c80 ?_)
    | (refine Ru.ldtg r86 ?_)
    | refine Br.t ?_|refine Pk.t ?_|refine Br.y ?_);conv=>whnf)
   refine Ru.of (build_found i t w6) ?_
   conv=>whnf
   refine Ru.buildfd (fdOf i t) ?_
   intro x34 w7 hx34 hs7 r34 k7
   conv=>whnf
   refine Bu.append Tryz.underlying64 hi0 hz0 hz1 hz2 rfl (by omega) (ly6.keep0 k7) _ (Rd.of_row r34 (n:=1 * 6) (by omega)) (by omega) (by simp) (fun j hj=>fd_one_cell _ j hj) (by simp only [maxLen];omega) (by omega) ?_
   intro Y cY w8 hy k8 hat hpre
   have kk7:=kk6.trans k7
   have lyY:Ly w8 69 6 Y (fdsTo P (i+1)).length cY (fdF (fdsTo P (i+1))):=by
    rw [efd,List.length_append,List.length_singleton]
    exact hy.congr (fun j hj=>by rw [fdF_snoc _ _ j hj])
   have hlY:(Value.slice Y ((fdsTo P i).length+1) cY) = .slice Y (fdsTo P (i+1)).length cY:=by rw [efd];simp
   conv=>whnf
   repeat ((first
    | refine Ar.la ?_);conv=>whnf)
   refine ⟨(i+1,Y,cY),⟨hlt,lyY,fun x hx=>?_,kk7.then k8 (fun x hx=>.inr (hZ x hx))⟩,⟨rfl,hlY,vi (by first | omega | (simp only;omega)),trivial⟩,by simp only;omega⟩
   rcases hat with e | e
   ·rw [e] at hx
    exact hZ x hx
   ·rw [e] at hx
    rw [List.mem_singleton.1 hx]
    exact kk7.size
  ·have hno:∀ t D,P.pg i≠.full t D:=fun t D e=>hfull ⟨t,D,e⟩
   have efd:=fdsTo_not hno
   conv=>whnf
   repeat ((first
    | refine Br.y ?_|refine CW.s ?_);conv=>whnf)
   refine Ca.of (message_none wr c i 3 C Hr hlt (by omega) (nofull_is hA hlt hno)) ?_
   rintro _ w2 ⟨rfl,k2⟩
   conv=>whnf
   repeat ((first
    | refine Br.t ?_|refine Ar.la ?_|refine CW.s ?_);conv=>whnf)
   exact ⟨(i+1,Z,cz),⟨hlt,by simp only;rw [efd];exact ly.keep0 k2,hZ,kk.trans k2⟩,⟨rfl,by rw [efd];rfl,vi (by first | omega | (simp only;omega)),trivial⟩,by simp only;omega⟩
 ·obtain rfl:i=96:=by omega
  conv=>whnf
  repeat ((first
   | refine Br.f ?_|refine CW.s ?_);conv=>whnf)
  exact ⟨rfl,Z,cz,rfl,ly,hZ,kk⟩
end Go.Proofs.YtaeikigfgfcadaaGreat
namespace Go.Proofs.YtaeikigfgfcadaaGreat
open Go.RowKit
set_option maxRecDepth 20000
set_option maxHeartbeats 1000000 in
theorem number_ok (w:World) (x o n c v:Nat) (F:Nat→Int) (hn:n≤5) (hv:v<1099511627776) (hv2:v<256 ^ n) (hc:∀ j,j<n→w.cell? ⟨x,o+j,none⟩=some (.int .u8 (F j))) (hb:∀ j,j<n→F j=byteOf v j) :
  Spec Tryz.prog 138 #[.slice (some ⟨x,o,none⟩) n c] w fun u w'=>u = .int .i64 v∧w=w':=by
 refine spec_of_wpE (T:=tt) tt_ok Tryz.func138 rfl (by decide +kernel) Tryz.ntmps138 (by simp) ?_
 conv=>whnf
 repeat ((first
  | refine Ar.la ?_|refine CW.s ?_);conv=>whnf)
 refine CW.loop (ι:=Nat) (fun i w'=>i≤n∧w'=w) (fun i=>[(0,.slice (some ⟨x,o,none⟩) n c),(3,.int .i64 (v / 256 ^ i:Nat)),(4,.int .i64 ((i:Int) - 1))]) (fun i=>i) n tt_ok ⟨by omega,rfl⟩ ⟨rfl,vi (by rw [Nat.div_eq_of_lt hv2];rfl),rfl,trivial⟩ ?_
 rintro i wr ⟨hi,rfl⟩
 rcases Nat.eq_zero_or_pos i with h0 | hpos
 ·subst h0
  conv=>whnf
  repeat ((first
   | refine Br.f ?_|refine CW.s ?_);conv=>whnf)
  exact ⟨rfl,vi (by simp),rfl⟩
 ·obtain ⟨k,rfl⟩:∃ k,i=k+1:=⟨i - 1,by omega⟩
  have hci:=hc k (by omega)
  rw [hb k (by omega)] at hci
  have hbo:byteOf (v:Int) k=((v / 256 ^ k % 256:Nat):Int):=by
   unfold byteOf
   push_cast
   rfl
  rw [hbo] at hci
  have e1:v / 256 ^ (k+1)=v / 256 ^ k / 256:=by rw [Nat.pow_succ,Nat.div_div_eq_div_mul]
  have e2:v / 256 ^ k≤v:=Nat.div_le_self _ _
  rw [e1]
  generalize hu:v / 256 ^ k=u at *
  have e3:=Nat.div_add_mod u 256
  conv=>whnf
  repeat ((first
   | (refine Ix.of k (by omega) (by omega) ?_)
   | (refine Ld.of hci ?_)
   | refine Ar.la ?_|refine Br.y ?_|refine CW.s ?_);conv=>whnf)
  exact ⟨k,⟨by omega,rfl⟩,⟨rfl,vi (by rw [hu];omega),vi (by omega),trivial⟩,by simp only;omega⟩
theorem Ru.sl_lhI {t e:TypeId} {b o n c l h:Nat} {x y:Int} {w:World} {K:Value→World→Prop} (ex:x=(l:Int)) (ey:y=(h:Int)) (hu:Tryz.prog.underlying t=some (.slice e)) (hs:szIs Tryz.prog e 1=true) (hl:l≤h) (hh:h≤c) (hc:l<c) (k:K (.slice (some ⟨b,o+l,none⟩) (h - l) (c - l)) w) :
  Ru Tryz.prog (Instr.sliceAt t (.slice (some ⟨b,o,none⟩) n c) (some (.int .i64 x)) (some (.int .i64 y)) none) w K:=by
 subst ex ey
 exact Ru.sl_lh hu hs hl hh hc k
def cz2 (p:Cp) (i j:Nat):Value:=if j<38+i∨50≤j∧j<50+i then p.cell j else Cp.zero.cell j
theorem cz2_put (p:Cp) {i j:Nat} (hi:i<12) (hj:j<62):put (put (cz2 p i) (38+i) (p.cell (38+i))) (50+i) (p.cell (50+i)) j=cz2 p (i+1) j:=by
 unfold put cz2
 by_cases h1:j=50+i
 ·rw [if_pos h1,if_pos (by omega),h1]
 ·rw [if_neg h1]
  by_cases h2:j=38+i
  ·rw [if_pos h2,if_pos (by omega),h2]
  ·rw [if_neg h2]
   by_cases h3:j<38+i∨50≤j∧j<50+i
   ·rw [if_pos h3,if_pos (by omega)]
   ·rw [if_neg h3,if_neg (by omega)]
set_option maxHeartbeats 8000000 in
theorem read9_ok (w:World) (x o c:Nat) (p:Cp) (hp:p.told) (hc:174≤c) (hcell:∀ j,j<174→w.cell? ⟨x,o+j,none⟩=some (.int .u8 (ptF p j))) :
  Spec Tryz.prog 80 #[.slice (some ⟨x,o,none⟩) 174 c] w fun v w'=>v = .tuple #[agg 62 p.cell,.int .i64 0]∧Keep [] w w':=by
 have hxw:x<w.heap.size:=cell_lt (hcell 0 (by omega))
 have hb12:badTo p 12<2 ^ 12:=badTo_lt p 12
 refine spec_of_wpE (T:=tt) tt_ok Tryz.func80 rfl (by decide +kernel) Tryz.ntmps80 (by simp) ?_
 conv=>whnf
 refine Ru.alloca (alloc_cp w) ?_
 intro g2 w1 hg2 hs1 r2 k1
 conv=>whnf
 refine Ru.of (build_cp00 _) ?_
 conv=>whnf
 refine Ru.alloca (alloc_cp w1) ?_
 intro g4 w2 hg4 hs2 r4 k2
 conv=>whnf
 refine Ru.sta r4 size_cp (by omega) (fun j _=>Cp.cell_one _ j) ?_
 intro w3 r43 k3
 have q3:Keep [] w w3:=(k1.trans k2).then k3 (fun x hx=>.inr (by rw [List.mem_singleton.1 hx];omega))
 have r23:=(r2.keep k2 (by simp)).keep k3 (by simpa using (by omega:g2≠g4))
 have r43:Row w3 g4 116 62 (cz p 0):=r43.congr (fun j hj=>by unfold lay cz;rw [if_pos (by omega),if_neg (by omega),Nat.sub_zero])
 have hc3:∀ j,j<174→w3.cell? ⟨x,o+j,none⟩=some (.int .u8 (ptF p j)):=fun j hj=>by
  rw [q3.cell hxw (by simp)]
  exact hcell j hj
 have g42:g4≠g2:=by omega
 have x4:x≠g4:=by omega
 have gw:w.heap.size≤g4:=by omega
 have g2w:w.heap.size≤g2:=by omega
 clear r4 r2 k1 k2 k3 hs1 hs2 hg4 hg2 hcell w1 w2
 have c126:=hc3 126 (by omega)
 have c127:=hc3 127 (by omega)
 have e126:ptF p 126=((badTo p 12 / 256:Nat):Int):=by
  show byteOf ((badN p:Nat):Int) 1=_
  unfold byteOf badN
  omega
 have e127:ptF p 127=p.cur:=by
  show byteOf p.cur 0=_
  have:=hp.cur
  unfold byteOf
  omega
 have hcur:=hp.cur
 rw [e126] at c126
 rw [e127] at c127
 conv=>whnf
 repeat ((first
  | (refine Ix.of 126 rfl (by omega) ?_)
  | (refine Ix.of 127 rfl (by omega) ?_)
  | (refine Ld.at (by omega) c126 ?_)
  | (refine Ld.at (by omega) c127 ?_)
  | refine Br.f ?_|refine Pk.f ?_|refine Br.n ?_|refine CW.s ?_);conv=>whnf)
 refine CW.loop (ι:=Nat) (fun i w'=>i≤10∧w'=w3) (fun i=>[(0,.slice (some ⟨x,o,none⟩) 174 c),(2,.pointer (some ⟨g2,0,none⟩)),(4,.pointer (some ⟨g4,0,none⟩)),(5,.int .i64 ((164+i:Nat):Int))]) (fun i=>10 - i) 0 tt_ok ⟨by omega,rfl⟩ ⟨rfl,rfl,rfl,rfl,trivial⟩ ?_
 rintro i wr ⟨hi,rfl⟩
 rcases Nat.lt_or_ge i 10 with hlt | hge
 ·have hci:=hc3 (164+i) (by omega)
  rw [ptF_end p (by omega)] at hci
  conv=>whnf
  repeat ((first
   | (refine Ix.of (164+i) (by omega) (by omega) ?_)
   | (refine Ld.of hci ?_)
   | refine Br.f ?_|refine Ar.la ?_|refine Br.y ?_|refine CW.s ?_);conv=>whnf)
  exact ⟨i+1,⟨hlt,rfl⟩,⟨rfl,rfl,rfl,vi (by first | omega | (simp only;omega)),trivial⟩,by simp only;omega⟩
 obtain rfl:i=10:=by omega
 clear hi hge
 conv=>whnf
 repeat ((first
  | refine Br.f ?_|refine CW.s ?_);conv=>whnf)
 have keep3:∀ {wa wb:World},Keep [g4] wa wb→(∀ j,j<174→wa.cell? ⟨x,o+j,none⟩=some (.int .u8 (ptF p j)))→∀ j,j<174→wb.cell? ⟨x,o+j,none⟩=some (.int .u8 (ptF p j)):=fun k h j hj=>by
  rw [k.cell (cell_lt (h j hj)) (by simpa using x4)]
  exact h j hj
 refine CW.loop (ι:=Nat) (fun i w'=>i≤24∧Row w' g4 116 62 (cz p i)∧Row w' g2 116 62 Cp.zero.cell∧(∀ j,j<174→w'.cell? ⟨x,o+j,none⟩=some (.int .u8 (ptF p j)))∧Keep [] w w') (fun i=>[(0,.slice (some ⟨x,o,none⟩) 174 c),(2,.pointer (some ⟨g2,0,none⟩)),(4,.pointer (some ⟨g4,0,none⟩)),(6,.int .i64 i)]) (fun i=>24 - i) 0 tt_ok ⟨by omega,r43,r23,hc3,q3⟩ ⟨rfl,rfl,rfl,rfl,trivial⟩ ?_
 clear r43 r23 hc3 q3 c126 c127 e126 e127
 rintro i wr ⟨hi,r4,r2,hcr,kk⟩
 rcases Nat.lt_or_ge i 24 with hlt | hge
 ·obtain ⟨v,hv,hv2⟩:=nat_of (hp.fl i hlt)
  conv=>whnf
  repeat ((first
   | (refine Ru.sl_lhI (l:=5 * i) (h:=5 * i+5) (by omega) (by omega) Tryz.underlying37 byte_szI (by omega) (by omega) (by omega) ?_)
   | refine Ar.la ?_|refine Br.y ?_|refine CW.s ?_);conv=>whnf)
  refine Ca.of (number_ok wr x (o+5 * i) (5 * i+5 - 5 * i) (c - 5 * i) v (fun j=>ptF p (5 * i+j)) (by omega) (by omega) (by rw [show 5 * i+5 - 5 * i=5 by omega];omega) (fun j hj=>by rw [Nat.add_assoc];exact hcr _ (by omega)) (fun j hj=>by rw [← hv];exact (ptF_fl p hlt (by omega)).symm)) ?_
  rintro _ _ ⟨rfl,rfl⟩
  conv=>whnf
  repeat ((first
   | refine Ix.n ?_);conv=>whnf)
  refine Sd.rowAt r4 i (by omega) (by omega) rfl ?_
  intro w4 r44 k4
  have r44:Row w4 g4 116 62 (cz p (i+1)):=r44.congr (fun j hj=>by rw [← cz_put p i j,p.cell_fl hlt,hv])
  conv=>whnf
  repeat ((first
   | refine Ar.la ?_);conv=>whnf)
  exact ⟨i+1,⟨hlt,r44,r2.keep k4 (by simpa using g42.symm),keep3 k4 hcr,kk.fresh gw k4⟩,⟨rfl,rfl,rfl,vi (by first | omega | (simp only;omega)),trivial⟩,by simp only;omega⟩
 obtain rfl:i=24:=by omega
 clear hge hi
 obtain ⟨v,hv,hv2⟩:=nat_of hp.next
 conv=>whnf
 repeat ((first
  | (refine Ru.sl_lhI (l:=120) (h:=125) rfl rfl Tryz.underlying37 byte_szI (by omega) (by omega) (by omega) ?_)
  | refine Br.f ?_|refine CW.s ?_);conv=>whnf)
 refine Ca.of (number_ok wr x (o+120) (125 - 120) (c - 120) v (fun j=>ptF p (120+j)) (by omega) (by omega) (by omega) (fun j hj=>by rw [Nat.add_assoc];exact hcr _ (by omega)) (fun j hj=>by rw [← hv];exact (ptF_next p (by omega)).symm)) ?_
 rintro _ _ ⟨rfl,rfl⟩
 conv=>whnf
 refine Sd.rowAt r4 24 (by omega) (by omega) rfl ?_
 intro w4 r44 k4
 have r44:Row w4 g4 116 62 (cz p (25+0)):=r44.congr (fun j hj=>by rw [← hv, ← p.cell_next];exact cz_put p 24 j)
 have r24:=r2.keep k4 (by simpa using g42.symm)
 have hc4:=keep3 k4 hcr
 have kk4:=kk.fresh gw k4
 clear r4 r2 hcr kk k4 wr hv hv2
 conv=>whnf
 repeat ((first
  | (refine Ru.sl_lhI (l:=125) (h:=127) rfl rfl Tryz.underlying37 byte_szI (by omega) (by omega) (by omega) ?_));conv=>whnf)
 refine Ca.of (number_ok w4 x (o+125) (127 - 125) (c - 125) (badTo p 12) (fun j=>ptF p (125+j)) (by omega) (by omega) (by omega) (fun j hj=>by rw [Nat.add_assoc];exact hc4 _ (by omega)) (fun j hj=>(ptF_bad p (by omega)).symm)) ?_
 rintro _ _ ⟨rfl,rfl⟩
 conv=>whnf
 repeat ((first
  | refine CW.s ?_);conv=>whnf)
 refine CW.loop (ι:=Nat) (fun i w'=>i≤12∧Row w' g4 116 62 (cz p (25+i))∧Row w' g2 116 62 Cp.zero.cell∧(∀ j,j<174→w'.cell? ⟨x,o+j,none⟩=some (.int .u8 (ptF p j)))∧Keep [] w w') (fun i=>[(0,.slice (some ⟨x,o,none⟩) 174 c),(2,.pointer (some ⟨g2,0,none⟩)),(4,.pointer (some ⟨g4,0,none⟩)),(7,.int .i64 (badTo p 12 / 2 ^ i:Nat)),(8,.int .i64 i)]) (fun i=>12 - i) 0 tt_ok ⟨by omega,r44,r24,hc4,kk4⟩ ⟨rfl,rfl,rfl,vi (by simp),rfl,trivial⟩ ?_
 clear r44 r24 hc4 kk4
 rintro i wr ⟨hi,r4,r2,hcr,kk⟩
 rcases Nat.lt_or_ge i 12 with hlt | hge
 ·have hbit:=badTo_bit p i 12 hlt
  have hsm:badTo p 12 / 2 ^ i<2 ^ 12:=Nat.lt_of_le_of_lt (Nat.div_le_self _ _) hb12
  have hst:badTo p 12 / 2 ^ (i+1)=badTo p 12 / 2 ^ i / 2:=by rw [Nat.pow_succ,Nat.div_div_eq_div_mul]
  generalize hu:badTo p 12 / 2 ^ i=u at *
  conv=>whnf
  repeat ((first
   | refine Ix.n ?_|refine Dv.r ?_|refine Br.y ?_|refine CW.s ?_);conv=>whnf)
  refine Sd.rowAt r4 (25+i) (by omega) (by omega) rfl ?_
  intro w5 r45 k5
  conv=>whnf
  repeat ((first
   | refine Ar.la ?_|refine Dv.q ?_);conv=>whnf)
  refine ⟨i+1,⟨hlt,r45.congr (fun j hj=>?_),r2.keep k5 (by simpa using g42.symm),keep3 k5 hcr,kk.fresh gw k5⟩,⟨rfl,rfl,rfl,vi (by rw [hst];omega),vi (by first | omega | (simp only;omega)),trivial⟩,by simp only;omega⟩
  show _=cz p (25+i+1) j
  rw [← cz_put p (25+i) j,p.cell_bad hlt]
  congr 2
  cases hb:p.bad i<;>rw [hb] at hbit<;>simp at hbit<;>simp<;>omega
 obtain rfl:i=12:=by omega
 clear hge hi
 have c127:=hcr 127 (by omega)
 have e127:ptF p 127=p.cur:=by
  show byteOf p.cur 0=_
  unfold byteOf
  omega
 rw [e127] at c127
 conv=>whnf
 repeat ((first
  | (refine Ix.of 127 rfl (by omega) ?_)
  | (refine Ld.at (by omega) c127 ?_)
  | refine Br.f ?_|refine Ar.la ?_|refine CW.s ?_);conv=>whnf)
 refine Sd.rowAt r4 37 (by omega) (by omega) rfl ?_
 intro w4 r44 k4
 have r44:Row w4 g4 116 62 (cz2 p 0):=r44.congr (fun j hj=>by
  have:=cz_put p 37 j
  rw [p.cell_cur] at this
  rw [this]
  unfold cz cz2
  by_cases h:j<38
  ·rw [if_pos h,if_pos (by omega)]
  ·rw [if_neg h,if_neg (by omega)])
 have r24:=r2.keep k4 (by simpa using g42.symm)
 have hc4:=keep3 k4 hcr
 have kk4:=kk.fresh gw k4
 clear r4 r2 hcr kk k4 wr c127
 conv=>whnf
 repeat ((first
  | refine CW.s ?_);conv=>whnf)
 refine CW.loop (ι:=Nat) (fun i w'=>i≤12∧Row w' g4 116 62 (cz2 p i)∧Row w' g2 116 62 Cp.zero.cell∧(∀ j,j<174→w'.cell? ⟨x,o+j,none⟩=some (.int .u8 (ptF p j)))∧Keep [] w w') (fun i=>[(0,.slice (some ⟨x,o,none⟩) 174 c),(2,.pointer (some ⟨g2,0,none⟩)),(4,.pointer (some ⟨g4,0,none⟩)),(9,.int .i64 i)]) (fun i=>12 - i) 0 tt_ok ⟨by omega,r44,r24,hc4,kk4⟩ ⟨rfl,rfl,rfl,rfl,trivial⟩ ?_
 clear r44 r24 hc4 kk4
 rintro i wr ⟨hi,r4,r2,hcr,kk⟩
 rcases Nat.lt_or_ge i 12 with hlt | hge
 ·obtain ⟨v,hv,hv2⟩:=nat_of (hp.rd i hlt)
  have hsc:=hp.sc i hlt
  conv=>whnf
  repeat ((first
   | (refine Ru.sl_lhI (l:=128+2 * i) (h:=130+2 * i) (by omega) (by omega) Tryz.underlying37 byte_szI (by omega) (by omega) (by omega) ?_)
   | refine Ar.la ?_|refine Br.y ?_|refine CW.s ?_);conv=>whnf)
  refine Ca.of (number_ok wr x (o+(128+2 * i)) (130+2 * i - (128+2 * i)) (c - (128+2 * i)) v (fun j=>ptF p (128+2 * i+j)) (by omega) (by omega) (by rw [show 130+2 * i - (128+2 * i)=2 by omega];omega) (fun j hj=>by rw [Nat.add_assoc];exact hcr _ (by omega)) (fun j hj=>by rw [← hv];exact (ptF_rd p hlt (by omega)).symm)) ?_
  rintro _ _ ⟨rfl,rfl⟩
  conv=>whnf
  repeat ((first
   | refine Ix.n ?_);conv=>whnf)
  refine Sd.rowAt r4 (38+i) (by omega) (by omega) rfl ?_
  intro w5 r45 k5
  have hc5:=keep3 k5 hcr
  have cs:=hc5 (152+i) (by omega)
  have es:ptF p (152+i)=p.scores i:=by
   have h9:ptF p (152+i)=byteOf (p.scores i) 0:=(ptF_sc p hlt (j:=0) (by omega)).symm
   rw [h9]
   unfold byteOf
   omega
  rw [es] at cs
  conv=>whnf
  repeat ((first
   | (refine Ix.of (152+i) (by omega) (by omega) ?_)
   | (refine Ld.of cs ?_)
   | refine Ix.n ?_|refine Ar.la ?_);conv=>whnf)
  refine Sd.rowAt r45 (50+i) (by omega) (by omega) rfl ?_
  intro w6 r46 k6
  conv=>whnf
  repeat ((first
   | refine Ar.la ?_);conv=>whnf)
  refine ⟨i+1,⟨hlt,r46.congr (fun j hj=>?_),(r2.keep k5 (by simpa using g42.symm)).keep k6 (by simpa using g42.symm),keep3 k6 hc5,(kk.fresh gw k5).fresh gw k6⟩,⟨rfl,rfl,rfl,vi (by first | omega | (simp only;omega)),trivial⟩,by simp only;omega⟩
  rw [← cz2_put p hlt hj,p.cell_rd hlt,p.cell_sc hlt,hv]
 obtain rfl:i=12:=by omega
 clear hge hi
 have r4:=r4.congr (fun j hj=>(if_pos (by omega):cz2 p 12 j=p.cell j))
 conv=>whnf
 repeat ((first
  | refine Br.f ?_|refine CW.s ?_);conv=>whnf)
 refine Ru.ldaC (q:=p.cell) r4 Tryz.underlying116 rfl size_cp (by omega) (fun j hj=>by rw [Nat.zero_add]) ?_
 conv=>whnf
 refine Ru.sta r2 size_cp (by omega) (fun j _=>p.cell_one j) ?_
 intro w5 r25 k5
 conv=>whnf
 refine Ru.ldaC (q:=p.cell) r25 Tryz.underlying116 rfl size_cp (by omega) (fun j hj=>by rw [Nat.zero_add];exact layA62' _ _ j hj) ?_
 conv=>whnf
 exact ⟨rfl,rfl,kk.fresh g2w k5⟩
end Go.Proofs.YtaeikigfgfcadaaGreat
namespace Go.Proofs.YtaeikigfgfcadaaGreat
open Go.RowKit
set_option maxRecDepth 20000
attribute [local irreducible] ahead Fd.sound
set_option maxHeartbeats 2000000 in
theorem refLive_ok (A:Option Addr) (c:Nat) (L:List Fd) (p:Cp) (w:World) (hr:Rd w A (L.length * 6) (fdF L)) (hn:L.length * 48≤140737488351232) :
  Spec Tryz.prog 52 #[.slice A L.length c,agg 62 p.cell] w (LivePost (liveF L p) w):=by
 obtain ⟨i0,hi,hz0,hz1,hz2⟩:=info_parts found_info
 have hlr:=live_ref L p
 have hne:=ref_ne (goodR L p)
 refine spec_of_wpE (T:=tt) tt_ok Tryz.func52 rfl (by decide +kernel) Tryz.ntmps52 (by simp) ?_
 conv=>whnf
 refine Ru.boxa ?_
 intro g3 w1 hg3 hs1 r3 k1
 conv=>whnf
 refine Ru.alloca (zout_run w1) ?_
 intro g4 w3 hg4 hs2 r4 k2
 have r3:=r3.keep k2 (by simp)
 have kk:=k1.trans k2
 have hl4:=r4.lt
 conv=>whnf
 repeat ((first
  | refine CW.s ?_);conv=>whnf)
 refine CW.loop (ι:=Nat × Option Addr × Nat) (fun i w4=>i.1≤L.length∧Ly w4 69 6 i.2.1 (goodR (L.take i.1) p).length i.2.2 (fdF (goodR (L.take i.1) p))∧(∀ x,x∈blk i.2.1→w3.heap.size≤x)∧Keep [] w3 w4)
  (fun i=>[(0,.slice A L.length c),(3,.pointer (some ⟨g3,0,none⟩)),(4,.pointer (some ⟨g4,0,none⟩)),(5,.slice i.2.1 (goodR (L.take i.1) p).length i.2.2),(6,.int .i64 i.1)]) (fun i=>L.length - i.1) (0,none,0) tt_ok ⟨by simp,Ly.nil _ _ _ _,(fun _ h=>by cases h),Keep.refl _ _⟩ ⟨rfl,rfl,rfl,rfl,rfl,trivial⟩ ?_
 rintro ⟨k,Z,cz⟩ w4 ⟨hk,hlz,hznew,k4⟩
 simp only at hk hlz hznew
 by_cases hlt:k<L.length
 ·obtain ⟨b,o,rfl,hc⟩:=fd_cells (hr.keep0 (kk.trans k4)) k hlt
  have htk:=take_snoc hlt
  have hgl:=goodR_len (L.take k) p
  have hlk:(L.take k).length=k:=by simp;omega
  generalize L.getD k Fd.zero=f at *
  have hst:goodR (L.take (k+1)) p=goodR (L.take k) p ++ if (f.sound && okB p f)=true then [f] else []:=by rw [htk,goodR_snoc]
  conv=>whnf
  repeat ((first
   | refine Ix.n ?_|refine Br.y ?_|refine CW.s ?_);conv=>whnf)
  refine Ru.ldfds hc ?_
  conv=>whnf
  refine Ca.of (refSound_sp f w4) ?_
  rintro _ w6 ⟨rfl,q6⟩
  have hc:=fd_keep hc q6
  obtain ⟨c0,c1,c2,c3,c4,c5⟩:=fd_cell6 hc
  by_cases hs:f.sound=true
  ·have hpl:=sound_place hs
   have hb:(f.place / 8).toNat<12:=by omega
   have hbad:=(r3.keep (k4.trans q6) (by simp)).cell (25+(f.place / 8).toNat) (by omega)
   rw [p.cell_bad hb] at hbad
   conv=>whnf
   repeat ((first
    | (refine Ld.at (by omega) hbad ?_)
    | refine Br.t ?_|refine Pk.t ?_|refine Ix.n ?_|refine Ix.i ?_|refine Dv.q ?_|refine Br.is (by assumption) ?_|refine Ld.of (by assumption) ?_);conv=>whnf)
   refine ⟨fun hg=>?_,fun hg=>?_⟩
   ·have e1:goodR (L.take (k+1)) p=goodR (L.take k) p ++ [f]:=by rw [hst,if_pos (by rw [hs];exact hg)]
    have e2:(goodR (L.take (k+1)) p).length=(goodR (L.take k) p).length+1:=by rw [e1];simp
    conv=>whnf
    repeat ((first
     | refine Ix.n ?_);conv=>whnf)
    refine Ru.ldfds hc ?_
    conv=>whnf
    refine Ru.buildfd f ?_
    intro g2 w7 hg2 hs7 r2 k7
    conv=>whnf
    refine Bu.append Tryz.underlying64 hi hz0 hz1 hz2 rfl (by omega) (hlz.keep0 (q6.trans k7)) _ (Rd.of_row r2 (n:=1 * 6) (by omega)) (by omega) (by simp) (fun j hj=>fd_one_cell f j hj) (by simp only [maxLen];omega) (by omega) ?_
    intro Y cY w8 hy hkp hat hpre
    conv=>whnf
    repeat ((first
     | refine Ar.la ?_);conv=>whnf)
    refine ⟨(k+1,Y,cY),⟨hlt,?_,fun x hx=>?_,((k4.trans q6).trans k7).then hkp (fun x hx=>.inr (hznew x hx))⟩,⟨rfl,rfl,rfl,congrArg (fun n=>Value.slice Y n cY) e2.symm,rfl,trivial⟩,by simp only;omega⟩
    ·simp only
     rw [e2]
     refine hy.congr (fun j hj=>?_)
     rw [e1]
     exact (fdF_snoc _ _ _ hj).symm
    ·rcases hat with e | e
     ·exact hznew x (e ▸ hx)
     ·simp only at hx
      rw [e] at hx
      obtain rfl:=List.mem_singleton.1 hx
      exact Nat.le_trans (Nat.le_trans k4.size q6.size) k7.size
   ·have e1:goodR (L.take (k+1)) p=goodR (L.take k) p:=by rw [hst,if_neg (by unfold okB;rw [hg];simp),List.append_nil]
    conv=>whnf
    repeat ((first
     | refine Ar.la ?_);conv=>whnf)
    exact ⟨(k+1,Z,cz),⟨hlt,by simp only;rw [e1];exact hlz.keep0 q6,hznew,k4.trans q6⟩,⟨rfl,rfl,rfl,by rw [e1];rfl,rfl,trivial⟩,by simp only;omega⟩
  ·have hs2:f.sound=false:=by simpa using hs
   have e1:goodR (L.take (k+1)) p=goodR (L.take k) p:=by rw [hst,if_neg (by rw [hs2];simp),List.append_nil]
   conv=>whnf
   repeat ((first
    | refine Br.f ?_|refine Pk.f ?_|refine Ar.la ?_|refine Br.isnt (by assumption) ?_);conv=>whnf)
   exact ⟨(k+1,Z,cz),⟨hlt,by simp only;rw [e1];exact hlz.keep0 q6,hznew,k4.trans q6⟩,⟨rfl,rfl,rfl,by rw [e1];rfl,rfl,trivial⟩,by simp only;omega⟩
 ·obtain rfl:k=L.length:=by omega
  rw [List.take_length] at hlz
  have hgl:=goodR_len L p
  have eg:goodR (L.take L.length) p=goodR L p:=by rw [List.take_length]
  generalize goodR L p=G0 at *
  generalize goodR (L.take L.length) p=G at *
  subst eg
  have r3:=r3.keep k4 (by simp)
  have r4:=r4.keep k4 (by simp)
  have kk:=kk.trans k4
  have hzlt:=fun x (hx:x∈blk Z)=>hlz.blk_lt hx
  conv=>whnf
  repeat ((first
   | refine Br.n ?_|refine CW.s ?_);conv=>whnf)
  refine Ru.alloca (zout_run w4) ?_
  intro g8 w5 hg8 hs5 r8 k5
  have r3:=r3.keep k5 (by simp)
  have r4:=r4.keep k5 (by simp)
  have hlz:=hlz.keep0 k5
  have d48:g4≠g8:=by have:=k4.size;omega
  have d38:g3≠g8:=by have:=k4.size;omega
  have hz8:∀ x,x∈blk Z→x∉[g8]:=fun x hx e=>by
   have:=hzlt x hx
   rw [List.mem_singleton.1 e] at this
   omega
  have kk:=kk.trans k5
  have hw8:w.heap.size≤g8:=by have:=kk.size;have:=k4.size;omega
  generalize hV:(fun of:Nat=>placeOf (refNewest G of (aboveF p of)))=V at *
  conv=>whnf
  repeat ((first
   | refine CW.s ?_);conv=>whnf)
  refine CW.loop (ι:=Nat) (fun i w'=>i≤25∧Row w' g8 59 25 (outAt V i)∧Keep [g8] w5 w') (fun i=>[(3,.pointer (some ⟨g3,0,none⟩)),(4,.pointer (some ⟨g4,0,none⟩)),(5,.slice Z G.length cz),(8,.pointer (some ⟨g8,0,none⟩)),(9,.int .i64 i)]) (fun i=>25 - i) 0 tt_ok ⟨by omega,r8.congr (fun j _=>rfl),Keep.refl _ _⟩ ⟨rfl,rfl,rfl,rfl,rfl,trivial⟩ ?_
  rintro k w6 ⟨hk,r8,k6⟩
  have r3:=r3.keep k6 (by simpa using d38)
  have r4:=r4.keep k6 (by simpa using d48)
  have hlz:=hlz.keep k6 hz8
  by_cases hlt:k<25
  ·have hfl:=r3.cell k (by omega)
   have hv:V k=placeOf (refNewest G k (aboveF p k)):=by rw [← hV]
   conv=>whnf
   refine CW.seq tt_ok ?_
   conv=>whnf
   repeat ((first
    | refine Br.y ?_);conv=>whnf)
   refine CW.seq tt_ok ?_
   conv=>whnf
   refine CW.cut (ι:=Unit) (fun _ w'=>w6=w') (fun _=>[(3,.pointer (some ⟨g3,0,none⟩)),(4,.pointer (some ⟨g4,0,none⟩)),(5,.slice Z G.length cz),(8,.pointer (some ⟨g8,0,none⟩)),(9,.int .i64 k),(10,.int .i64 (aboveF p k))]) tt_ok ?_ ?_
   ·by_cases h24:k<24
    ·rw [p.cell_fl h24] at hfl
     conv=>whnf
     repeat ((first
      | (refine Ld.at (by omega) hfl ?_)
      | refine Ix.n ?_|refine Br.y ?_);conv=>whnf)
     exact ⟨(),rfl,rfl,rfl,rfl,rfl,rfl,vi (if_pos h24).symm,trivial⟩
    ·conv=>whnf
     repeat ((first
      | refine Br.n ?_);conv=>whnf)
     exact ⟨(),rfl,rfl,rfl,rfl,rfl,rfl,vi (if_neg h24).symm,trivial⟩
   rintro _ _ rfl
   conv=>whnf
   repeat ((first
    | refine Ix.n ?_);conv=>whnf)
   refine Sd.rowAt r8 k (by omega) hlt rfl ?_
   intro w7 r8 k7
   have hlz:=hlz.keep k7 hz8
   conv=>whnf
   refine Ca.of (refNewest_ok Z cz G k (aboveF p k) w7 hlz.rd (by omega) (hne k (aboveF p k))) ?_
   rintro _ w8 ⟨rfl,k8⟩
   have r8:=r8.keep k8 (by simp)
   generalize refNewest G k (aboveF p k)=s at *
   conv=>whnf
   refine Ru.allocfd ?_
   intro g11 w9 hg11 hs9 r11 k9
   have hl8:=r8.lt
   have r8:=r8.keep k9 (by simp)
   conv=>whnf
   refine Ru.stfd r11 ?_
   intro w10 r11 k10
   have d11:g11≠g8:=by omega
   have r8:=r8.keep k10 (by simpa using d11.symm)
   have q10:Keep [] w8 w10:=k9.then k10 (fun x hx=>.inr (by rw [List.mem_singleton.1 hx];omega))
   have q6:Keep [g8] w5 w10:=((k6.trans k7).trans (k8.mono (by simp))).trans (q10.mono (by simp))
   conv=>whnf
   refine ⟨fun hh=>?_,fun hh=>?_⟩
   ·conv=>whnf
    repeat ((first
     | (refine Ld.row r11 (by omega) ?_)
     | refine Ix.n ?_);conv=>whnf)
    refine Sd.rowAt r8 k (by omega) hlt rfl ?_
    intro w11 r8 k11
    rw [put_put] at r8
    conv=>whnf
    repeat ((first
     | refine Ar.la ?_);conv=>whnf)
    refine ⟨k+1,⟨hlt,r8.congr (fun j hj=>?_),q6.trans k11⟩,⟨rfl,rfl,rfl,rfl,rfl,trivial⟩,by simp only;omega⟩
    rw [← outAt_put V k j hj,hv]
    unfold placeOf
    rw [if_pos hh]
    rfl
   ·conv=>whnf
    repeat ((first
     | refine Ar.la ?_);conv=>whnf)
    refine ⟨k+1,⟨hlt,r8.congr (fun j hj=>?_),q6⟩,⟨rfl,rfl,rfl,rfl,rfl,trivial⟩,by simp only;omega⟩
    rw [← outAt_put V k j hj,hv]
    unfold placeOf
    rw [if_neg (by rw [hh];simp)]
  ·obtain rfl:k=25:=by omega
   conv=>whnf
   repeat ((first
    | refine Br.f ?_|refine CW.s ?_);conv=>whnf)
   refine Ru.ldaC (q:=fun j=>.int .i64 (V j)) r8 Tryz.underlying59 rfl out_size (by omega) (fun j hj=>by rw [Nat.zero_add];exact if_pos hj) ?_
   conv=>whnf
   refine Ru.sta r4 out_size (by omega) (fun j _=>rfl) ?_
   intro w7 r4 k7
   conv=>whnf
   refine Ru.ldaC (q:=fun j=>.int .i64 (V j)) r4 Tryz.underlying59 rfl out_size (by omega) (fun j hj=>by unfold lay;rw [if_pos (by omega)];simp) ?_
   conv=>whnf
   refine ⟨rfl,?_,(kk.then k6 (fun x hx=>.inr (by rw [List.mem_singleton.1 hx];exact hw8))).then k7 (fun x hx=>.inr (by rw [List.mem_singleton.1 hx];omega))⟩
   show agg 25 _=agg 25 _
   refine agg_congr fun j hj=>?_
   rw [← hV, ← hlr j]
end Go.Proofs.YtaeikigfgfcadaaGreat
namespace Go.Proofs.YtaeikigfgfcadaaGreat
open Go.RowKit
set_option maxRecDepth 20000
attribute [local irreducible] fdsTo ahead Fd.sound
def plcL (L:Nat→Nat) (o:Nat):Int:=if L o=0 then -1 else ((L o - 1:Nat):Int)
set_option maxHeartbeats 4000000 in
theorem pointc_ok (w:World) (c:Nat) (C:Chip) (H:ChipAt w c C) {P:CS} (hA:Abs C P) {k:Cp} {L:Nat→Nat} {m:Int} (h:Okay P k L m) {A:Option Addr} {cA:Nat} (hr:Ly w 69 6 A (fdsTo P 96).length cA (fdF (fdsTo P 96))) :
  Spec Tryz.prog 51 #[.pointer (some ⟨c,0,none⟩),.slice A (fdsTo P 96).length cA] w fun v w'=>v = .tuple #[agg 62 k.cell,.bool true]∧Keep [] w w':=by
 obtain ⟨t,D,hp,hto,h96,hnew⟩:=newest_point h
 rw [newest_ref] at hnew
 have hdat:=h.led.data
 unfold dataAt at hdat
 rw [hp] at hdat
 have hdat:D=ptN k:=hdat
 have hlen:=fdsTo_len P 96
 refine spec_of_wpE (T:=tt) tt_ok Tryz.func51 rfl (by decide +kernel) Tryz.ntmps51 (by simp) ?_
 conv=>whnf
 refine Ru.alloca (alloc_cp w) ?_
 intro x4 w1 hx4 hs1 r4 k1
 conv=>whnf
 refine Ca.of (refNewest_ok A cA (fdsTo P 96) 24 (-1) w1 (hr.keep0 k1).rd (by omega) (ref_ne _ _ _)) ?_
 rintro _ w2 ⟨rfl,k2⟩
 rw [hnew]
 have r42:=r4.keep k2 (by simp)
 have kk2:=k1.trans k2
 conv=>whnf
 refine Ru.allocfd ?_
 intro x6 w3 hx6 hs3 r6 k3
 conv=>whnf
 refine Ru.stfd r6 ?_
 intro w4 r64 k4
 have q4:Keep [] w2 w4:=k3.then k4 (fun x hx=>.inr (by rw [List.mem_singleton.1 hx,hx6];exact Nat.le_refl _))
 have r44:=r42.keep q4 (by simp)
 have kk4:=kk2.trans q4
 have hx4w:w.heap.size≤x4:=by omega
 have c60:w4.cell? ⟨x6,0,none⟩=some (.int .i64 ((L 24 - 1:Nat):Int)):=r64.cell 0 (by omega)
 clear r4 k1 k2 hs1 k3 k4 q4 r6 hs3 r42 kk2 hx4
 conv=>whnf
 repeat ((first
  | (refine Ld.at (by omega) c60 ?_)
  | refine Br.f ?_|refine CW.s ?_);conv=>whnf)
 refine Ca.of (tdata_ok w4 c (L 24 - 1) C (H.keep kk4 (by simp)) hA h96 hp) ?_
 rintro _ w5 ⟨Y,d,rfl,O⟩
 have r45:=r44.keep O.keep (by simp)
 have kk5:=kk4.trans O.keep
 obtain ⟨g,rfl,-,-⟩:=O.ly.at1 (j:=0) (by omega)
 have hle:=O.ly.1
 conv=>whnf
 refine Ca.of (read9_ok w5 g 0 d k h.led.told hle (fun j hj=>?_)) ?_
 ·obtain ⟨g',e1,e2,-⟩:=O.ly.at1 (j:=j) hj
  cases e1
  rw [Nat.zero_add,e2,hdat,ptN_int]
 rintro _ w6 ⟨rfl,k6⟩
 have r46:=r45.keep k6 (by simp)
 have kk6:=kk5.trans k6
 conv=>whnf
 refine Ru.alloca (alloc_cp w6) ?_
 intro x8 w7 hx8 hs7 r8 k7
 conv=>whnf
 refine Ru.sta r8 size_cp (by omega) (fun j _=>k.cell_one j) ?_
 intro w8 r88 k8
 have q8:Keep [] w6 w8:=k7.then k8 (fun x hx=>.inr (by rw [List.mem_singleton.1 hx,hx8];exact Nat.le_refl _))
 have r48:=r46.keep q8 (by simp)
 have kk8:=kk6.trans q8
 have r88:Row w8 x8 116 62 k.cell:=r88.congr (fun j hj=>layA62' _ _ j hj)
 conv=>whnf
 refine Ru.ldaC (q:=k.cell) r88 Tryz.underlying116 rfl size_cp (by omega) (fun j hj=>by rw [Nat.zero_add]) ?_
 conv=>whnf
 refine Ru.sta r48 size_cp (by omega) (fun j _=>k.cell_one j) ?_
 intro w9 r49 k9
 have r49:Row w9 x4 116 62 k.cell:=r49.congr (fun j hj=>layA62' _ _ j hj)
 conv=>whnf
 refine Ru.ldaC (q:=k.cell) r49 Tryz.underlying116 rfl size_cp (by omega) (fun j hj=>by rw [Nat.zero_add]) ?_
 conv=>whnf
 exact ⟨rfl,rfl,kk8.fresh hx4w k9⟩
theorem plcL_one (L:Nat→Nat) (j:Nat):(Value.int .i64 (plcL L j)).oneCell'=true:=rfl
set_option maxHeartbeats 4000000 in
theorem onch_ok (w:World) (c:Nat) (C:Chip) (H:ChipAt w c C) {P:CS} (hA:Abs C P) {k:Cp} {L:Nat→Nat} {m:Int} (h:Okay P k L m) :
  Spec Tryz.prog 33 #[.pointer (some ⟨c,0,none⟩)] w fun v w'=>v = .tuple #[agg 25 (fun o=>.int .i64 (plcL L o)),.bool true]∧Keep [] w w':=by
 have hlen:=fdsTo_len P 96
 refine spec_of_wpE (T:=tt) tt_ok Tryz.func33 rfl (by decide +kernel) Tryz.ntmps33 (by simp) ?_
 conv=>whnf
 refine Ru.alloca (zout_run w) ?_
 intro x2 w1 hx2 hs1 r2 k1
 conv=>whnf
 refine Ca.of (truths_ok w1 c C (H.keep k1 (by simp)) hA) ?_
 rintro _ w2 ⟨Z,cz,rfl,ly,hZ,k2⟩
 have r22:=r2.keep k2 (by simp)
 have kk2:=k1.trans k2
 conv=>whnf
 refine Ca.of (pointc_ok w2 c C (H.keep kk2 (by simp)) hA h ly) ?_
 rintro _ w3 ⟨rfl,k3⟩
 have r23:=r22.keep k3 (by simp)
 have ly3:=ly.keep0 k3
 have kk3:=kk2.trans k3
 conv=>whnf
 refine Ru.alloca (alloc_cp w3) ?_
 intro x5 w4 hx5 hs4 r5 k4
 conv=>whnf
 refine Ru.sta r5 size_cp (by omega) (fun j _=>k.cell_one j) ?_
 intro w5 r55 k5
 have q5:Keep [] w3 w5:=k4.then k5 (fun x hx=>.inr (by rw [List.mem_singleton.1 hx,hx5];exact Nat.le_refl _))
 have r25:=r23.keep q5 (by simp)
 have ly5:=ly3.keep0 q5
 have kk5:=kk3.trans q5
 have r55:Row w5 x5 116 62 k.cell:=r55.congr (fun j hj=>layA62' _ _ j hj)
 have hx2w:w.heap.size≤x2:=by omega
 clear r2 r22 r23 k1 k2 k3 k4 k5 q5 r5 hs1 hs4 ly ly3 kk2 kk3
 conv=>whnf
 repeat ((first
  | refine Br.f ?_|refine CW.s ?_);conv=>whnf)
 refine Ru.ldaC (q:=k.cell) r55 Tryz.underlying116 rfl size_cp (by omega) (fun j hj=>by rw [Nat.zero_add]) ?_
 conv=>whnf
 refine Ca.of (refLive_ok Z cz (fdsTo P 96) k w5 ly5.rd (by omega)) ?_
 rintro _ w6 ⟨rfl,k6⟩
 have r26:=r25.keep k6 (by simp)
 have kk6:=kk5.trans k6
 have e:agg 25 (fun j=>Value.int .i64 (liveF (fdsTo P 96) k j))=agg 25 (fun o=>.int .i64 (plcL L o)):=agg_congr (fun j hj=>by rw [live_fds h hj];rfl)
 rw [e]
 conv=>whnf
 refine Ru.sta r26 out_size (by omega) (fun j _=>plcL_one L j) ?_
 intro w7 r27 k7
 conv=>whnf
 refine Ru.ldaC (q:=fun o=>.int .i64 (plcL L o)) r27 Tryz.underlying59 rfl out_size (by omega) (fun j hj=>by unfold lay;rw [if_pos (by omega)];simp) ?_
 conv=>whnf
 exact ⟨rfl,rfl,kk6.fresh hx2w k7⟩
end Go.Proofs.YtaeikigfgfcadaaGreat

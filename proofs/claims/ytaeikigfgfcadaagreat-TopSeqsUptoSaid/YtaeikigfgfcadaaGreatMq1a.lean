/- Texts behind one another: RPutGet, RTag, RTag2, Truth, Marked3, Truths, FdsAt, Seqs, JnTopSeqs. -/
import Derived.WalkKit
import Derived.ProofKit
import Derived.ChangeOld
import Derived.SizedLaws
import Derived.JoinedCond
import Derived.Lib.SmallJoins
import Derived.Test.YtaeikigfgfcadaaGreatMq0a
import Derived.Test.YtaeikigfgfcadaaGreatMq0b
import Derived.Test.YtaeikigfgfcadaaGreatMq0c
import Derived.Test.YtaeikigfgfcadaaGreatMq0d
import Derived.Test.YtaeikigfgfcadaaGreatMq0e
import Derived.Test.YtaeikigfgfcadaaGreatMq0f
set_option linter.unusedVariables false
set_option linter.unusedSimpArgs false
set_option linter.unnecessarySimpa false
namespace Go.Proofs.YtaeikigfgfcadaaGreat
open Go.RowKit
def RPutPost (v:Int) (n:Nat) (w:World) (e:Ending) (w':World):Prop :=
 ∃ x,e = .returned (.tuple #[x,.bool (v / 256 ^ n == 0)])∧w'.ownsRow w.heap.size 5 1 x n ((List.range n).map fun j=>.int .u8 (byteOf v j))∧Keep [] w w'
set_option maxHeartbeats 1000000 in
theorem rput_ok (v : Int) (n : Nat) (w : World) (h0 : 0 ≤ v) (h1 : v ≤ 18446744073709551615) (hn8 : n ≤ 8) :
    Calls Tryz.prog 139 #[.int .u64 v, .int .i64 n] w (RPutPost v n w) := by
  obtain ⟨i0, hi, hz0, hz1, hz2⟩ := info_parts byte_info
  have hp : v = v / 256 ^ 0 := by simp
  have HP := Lib.hid hp; clear hp
  go_enter Tryz.func139, Tryz.ntmps139
  go_wp2
  go_loopw [0, 6, 7] (fun x vl i wr => ∃ (k : Nat) (l : Value), k ≤ n ∧ l = vl ∧ i = .int .i64 k ∧ x = .int .u64 (v / 256 ^ k) ∧ Keep [] w wr ∧ wr.ownsRow w.heap.size 5 1 l k ((List.range k).map fun j => .int .u8 (byteOf v j))) (fun _ _ i _ => n - (intOf i).toNat)
  case atStart => exact ⟨0, _, by omega, rfl, rfl, by rw [← HP.out], Keep.refl _ _, own_nil _ _ _⟩
  case round =>
    clear HP
    obtain ⟨k, l, hk, rfl, rfl, rfl, kk, own⟩ := hrel
    have hx0 : 0 ≤ v / 256 ^ k := Int.ediv_nonneg h0 (Int.le_of_lt (Int.pow_pos (by omega)))
    have hx1 : v / 256 ^ k ≤ 18446744073709551615 := Int.le_trans (Int.ediv_le_self _ h0) h1
    have HS := Lib.hid (pow_step v k)
    have HB : Hid (byteOf v k = v / 256 ^ k % 256) := rfl
    by_cases hlt : k < n
    · generalize v / 256 ^ k = x at hx0 hx1 HS HB
      have hsz := kk.size
      go_wp2_with (at_builtin
                   refine wpList_append_rd rfl (.tmp 13) (.tmp 17) 37 rfl w.heap.size 5 i0 _ 1 Tryz.underlying37 hi hz0 hz1 hz2 rfl l k _ rfl (own.alloc _) (some ⟨wr.heap.size, 0, none⟩) 1 1 (fun _ => .int .u8 (x % 256)) rfl (rd_one (heap_alloc_new _ _)) (Nat.le_refl _) (fun e => by cases e) (fun _ _ => rfl) (by simp only [maxLen]; omega) (by omega) (by simp; omega) ?_
                   intro v2 w2 own2 g2 at2
                   have k2 := (kk.alloc _).grown g2 (by
                     intro q hq
                     right
                     obtain ⟨A, c, rfl, _, ha⟩ := own_slice own
                     cases A with
                     | none => cases hq
                     | some a => injection hq with hq; subst hq; exact (ha a rfl).1)
                   clear own g2 at2 kk hsz)
      go_roundw
      case rel => exact ⟨k + 1, v2, by omega, rfl, by go_num, by rw [HS.out], k2, by
        have e := map_range_succ k (fun j => .int .u8 (byteOf v j))
        rw [← e, show (fun (_ : Nat) => Value.int .u8 (byteOf v k)) = fun _ => .int .u8 (x % 256) from by rw [HB.out]]
        exact own2⟩
      case measure => simp [intOf] <;> omega
    · obtain rfl : k = n := by omega
      generalize hx : v / 256 ^ k = x at hx0 hx1
      have HX := Lib.hid hx; clear hx
      go_wp2
      go_ret2
      exact ⟨l, ret_eq (by rw [HX.out]; rfl), own, kk⟩
theorem pow_le7 (k:Nat) (hk:k≤7):(256:Int) ^ k≤72057594037927936:=by
 have h:k=0∨k=1∨k=2∨k=3∨k=4∨k=5∨k=6∨k=7:=by omega
 rcases h with rfl | rfl | rfl | rfl | rfl | rfl | rfl | rfl<;>decide
theorem numOf_ext (f g:Nat→Int) (n:Nat) (h:∀ j,j<n→f j=g j):numOf f n=numOf g n:=by
 induction n generalizing f g with
 | zero=>rfl
 | succ n ih=>rw [numOf_succ,numOf_succ,h 0 (by omega),ih _ _ (fun j hj=>h (j+1) (by omega))]
set_option maxHeartbeats 1000000 in
theorem rget_ok (A:Option Addr) (n c:Nat) (f:Nat→Int) (w:World) (r:Rd w A n (fun j=>.int .u8 (f j))) (hf:∀ j,0≤f j∧f j≤255) (hn8:n≤8) :
  Calls Tryz.prog 84 #[.slice A n c] w fun e w'=>e = .returned (.int .u64 (numOf f n))∧w=w':=by
 go_enter Tryz.func84,Tryz.ntmps84
 go_wp2
 go_loop [3,4] (fun x i=>∃ m:Nat,m≤n∧i = .int .i64 ((m:Int) - 1)∧x = .int .u64 (numOf (fun j=>f (m+j)) (n - m))) (fun _ i=>(intOf i+1).toNat)
 case atStart=>exact ⟨n,by omega,rfl,by rw [Nat.sub_self];rfl⟩
 case round =>
  obtain ⟨m,hm,rfl,rfl⟩:=hrel
  by_cases hlt:0<m
  ·obtain ⟨k,rfl⟩:∃ k,m=k+1:=⟨m - 1,by omega⟩
   rw [show ((k+1:Nat):Int) - 1=(k:Int) from by omega]
   obtain ⟨b,o,rfl,hc⟩:=r (by omega)
   have hck:w.cell? ⟨b,o+k,none⟩=some (.int .u8 (f k)):=hc k (by omega)
   clear hc r
   obtain ⟨f0,f1⟩:=hf k
   obtain ⟨x0,x1⟩:=numOf_bd (fun j=>f (k+1+j)) (fun j=>hf _) (n - (k+1))
   have hx:numOf (fun j=>f (k+1+j)) (n - (k+1))<72057594037927936:=Int.lt_of_lt_of_le x1 (pow_le7 _ (by omega))
   have hs:numOf (fun j=>f (k+j)) (n - k)=f k+256 * numOf (fun j=>f (k+1+j)) (n - (k+1)):=by
    rw [show n - k=(n - (k+1))+1 from by omega,numOf_succ]
    rw [numOf_ext (fun j=>f (k+(j+1))) (fun j=>f (k+1+j)) _ (fun j _=>by rw [show k+(j+1)=k+1+j from by omega])]
    rfl
   have HS:=Lib.hid hs
   clear x1 hs
   generalize numOf (fun j=>f (k+1+j)) (n - (k+1))=x at x0 hx HS
   generalize f k=y at f0 f1 hck HS
   go_wp2
   go_round
   case rel=>exact ⟨k,by omega,by go_num,by rw [HS.out];congr 1;omega⟩
   case measure=>simp [intOf]<;>omega
  ·obtain rfl:m=0:=by omega
   have hs:numOf (fun j=>f (0+j)) (n - 0)=numOf f n:=by
    rw [Nat.sub_zero]
    exact numOf_ext _ _ _ (fun j _=>by rw [Nat.zero_add])
   rw [hs]
   go_wp2
   go_ret
   exact ⟨rfl,rfl⟩
set_option maxHeartbeats 1000000 in
theorem may_ok (t:Tg) (w:World):Spec Tryz.prog 85 #[.agg t.arr] w fun v w'=>v = .bool (decide t.ok)∧Keep [] w w':=by
 have h0:∀ {g:Nat} {w:World},Row w g 67 5 t.cell→w.cell? ⟨g,0,none⟩=some (.int .i64 t.place)∧w.cell? ⟨g,1,none⟩=some (.int .i64 t.of)∧w.cell? ⟨g,2,none⟩=some (.int .i64 t.seq)∧w.cell? ⟨g,3,none⟩=some (.int .i64 t.copy)∧w.cell? ⟨g,4,none⟩=some (.bool t.lost):=fun r=>⟨r.cell 0 (by omega),r.cell 1 (by omega),r.cell 2 (by omega),r.cell 3 (by omega),r.cell 4 (by omega)⟩
 have hno:¬ t.ok→decide t.ok=false:=decide_eq_false
 have hyes:t.ok→decide t.ok=true:=decide_eq_true
 generalize hx:decide t.ok=x at hno hyes ⊢
 unfold Tg.ok at hno hyes
 refine spec_of_wpE (T:=tt) tt_ok Tryz.func85 rfl (by decide +kernel) Tryz.ntmps85 (by simp) ?_
 conv=>whnf
 refine Ru.boxtg ?_
 intro g w1 hg hs r k1
 obtain ⟨c0,c1,c2,c3,c4⟩:=h0 r
 clear h0 r hx
 generalize t.place=a0 at *
 generalize t.of=a1 at *
 generalize t.seq=a2 at *
 generalize t.copy=a3 at *
 cases hl:t.lost<;>rw [hl] at c4 hno hyes
 all_goals
  conv=>whnf
  repeat' ((first
   | refine Br.t ?_|refine Br.f ?_|refine Pk.f ?_|refine Pk.t ?_|refine Dv.r ?_|refine Ld.of (by assumption) ?_|refine CW.s ?_|refine Br.d (fun _=>?_) (fun _=>?_))<;>conv=>whnf)
  all_goals
   first
    | exact ⟨rfl,vb (hno (fun h=>by simp at h;omega)).symm,k1⟩
    | exact ⟨rfl,vb (hyes (by simp;omega)).symm,k1⟩
    | (refine ⟨rfl,vb ?_,k1⟩;by_cases h6:a0 % 8<6<;>first | (rw [hyes (by simp;omega)];simpa using h6) | (rw [hno (fun h=>by simp at h;omega)];simpa using h6))
theorem rput_sp (v:Int) (n:Nat) (w:World) (h0:0≤v) (h1:v≤18446744073709551615) (hn8:n≤8) :
  Spec Tryz.prog 139 #[.int .u64 v,.int .i64 n] w fun u w'=>∃ A c b,u = .tuple #[.slice A n c,.bool b]∧n≤c∧(A=none→c=0)∧Rd w' A n (fun j=>.int .u8 (byteOf v j))∧Keep [] w w':=by
 refine ⟨by kernel_rfl,(rput_ok v n w h0 h1 hn8).mono ?_⟩
 rintro e w' ⟨x,rfl,own,k⟩
 obtain ⟨A,c,rfl,ha,_⟩:=own_slice own
 exact ⟨_,rfl,A,c,_,rfl,ha.le,ha.none_,ha.rd.congr (fun j hj=>by simp [List.getD_eq_getElem?_getD,hj]),k⟩
theorem rget_sp (A:Option Addr) (n c:Nat) (f:Nat→Int) (w:World) (r:Rd w A n (fun j=>.int .u8 (f j))) (hf:∀ j,0≤f j∧f j≤255) (hn8:n≤8) :
  Spec Tryz.prog 84 #[.slice A n c] w fun v w'=>v = .int .u64 (numOf f n)∧w=w':=Spec.of_calls (by kernel_rfl) (rget_ok A n c f w r hf hn8)
def BodyPost (t:Tg) (w:World) (v:Value) (w':World):Prop:=∃ Y d,v = .slice Y 50 d∧Own w w' Y 50 d (bodyF t)
set_option maxHeartbeats 2000000 in
theorem rbody_ok (t:Tg) (ht:t.ok) (w:World):Spec Tryz.prog 87 #[.agg t.arr] w (BodyPost t w):=by
 unfold Tg.ok at ht
 refine spec_of_wpE (T:=tt) tt_ok Tryz.func87 rfl (by decide +kernel) Tryz.ntmps87 (by simp) ?_
 conv=>whnf
 refine Ru.boxtg ?_
 intro g w1 hg hs r k1
 conv=>whnf
 repeat ((first
  | (refine Ld.row r (by omega) ?_)
  | refine Ar.lc ?_);conv=>whnf)
 refine Ca.of (rput_sp t.place 2 _ (by omega) (by omega) (by omega)) ?_
 rintro _ w2 ⟨A,cA,ba,rfl,qA,nA,rA,k2⟩
 have r2:=r.keep k2 (by simp)
 conv=>whnf
 repeat ((first
  | (refine Ld.row r2 (by omega) ?_)
  | refine Ar.lc ?_);conv=>whnf)
 refine Ca.of (rput_sp t.seq 5 _ (by omega) (by omega) (by omega)) ?_
 rintro _ w3 ⟨B,cB,bb,rfl,qB,nB,rB,k3⟩
 have r3:=r2.keep k3 (by simp)
 have rA:=rA.keep0 k3
 conv=>whnf
 refine CW.cut (ι:=Unit) (fun _ w'=>w3=w') (fun _=>[(1,.pointer (some ⟨g,0,none⟩)),(3,.slice A 2 cA),(5,.slice B 5 cB),(7,.int .u8 (if t.lost then 1 else 0))]) tt_ok ?_ ?_
 ·have c4:w3.cell? ⟨g,4,none⟩=some (.bool t.lost):=r3.cell 4 (by omega)
  cases hl:t.lost<;>rw [hl] at c4
  ·conv=>whnf
   repeat ((first
    | (refine Ld.at (by omega) c4 ?_)
    | refine Br.f ?_);conv=>whnf)
   exact ⟨(),rfl,rfl,rfl,rfl,rfl,trivial⟩
  ·conv=>whnf
   repeat ((first
    | (refine Ld.at (by omega) c4 ?_)
    | refine Br.t ?_);conv=>whnf)
   exact ⟨(),rfl,rfl,rfl,rfl,rfl,trivial⟩
 rintro _ _ rfl
 conv=>whnf
 refine Ru.mkb (n:=0) (Keep.refl [] w3) (by omega) ?_
 intro g4 w4 hg4 hs4 O k4
 clear k4 hs4 hg4
 conv=>whnf
 refine Bu.grow O _ (rA.keep0 O.keep) qA nA (by omega) ?_
 intro Y5 d5 w5 O k5
 clear k5
 have r5:=r3.keep O.keep (by simp)
 conv=>whnf
 repeat ((first
  | (refine Ld.row r5 (by omega) ?_)
  | refine Ar.lb ?_);conv=>whnf)
 refine Ru.b1 ?_
 intro g6 w6 hg6 r6 k6
 have O:=O.keep0 k6
 conv=>whnf
 refine Bu.grow O _ r6 (by omega) (by simp) (by omega) ?_
 intro Y7 d7 w7 O k7
 clear k7 r6
 conv=>whnf
 refine Bu.grow O _ (rB.keep0 O.keep) qB nB (by omega) ?_
 intro Y8 d8 w8 O k8
 clear k8
 have r8:=r3.keep O.keep (by simp)
 conv=>whnf
 repeat ((first
  | (refine Ld.row r8 (by omega) ?_)
  | refine Ar.lb ?_);conv=>whnf)
 refine Ru.b2 ?_
 intro g9 w9 hg9 r9 k9
 have O:=O.keep0 k9
 conv=>whnf
 refine Bu.grow O _ r9 (by omega) (by simp) (by omega) ?_
 intro Y d w10 O k10
 clear k10 r9
 have O:Own w3 w10 Y 10 d (bodyF t):=O.congr (fun j hj=>by
  have:j=0∨j=1∨j=2∨j=3∨j=4∨j=5∨j=6∨j=7∨j=8∨j=9:=by omega
  have a2:=byte0 (v:=t.of) (by omega) (by omega)
  have a8:=byte0 (v:=t.copy) (by omega) (by omega)
  have a9:byteOf (if t.lost=true then 1 else 0) 0=if t.lost=true then 1 else 0:=by cases t.lost<;>rfl
  rcases this with rfl | rfl | rfl | rfl | rfl | rfl | rfl | rfl | rfl | rfl<;>first | rfl | exact a2.symm | exact a8.symm | exact a9.symm)
 conv=>whnf
 repeat ((first
  | refine CW.s ?_);conv=>whnf)
 refine CW.loop (ι:=Nat × Option Addr × Nat) (fun i wr=>(10≤i.1∧i.1≤50)∧Own w3 wr i.2.1 i.1 i.2.2 (bodyF t)) (fun i=>[(8,.slice i.2.1 i.1 i.2.2)]) (fun i=>50 - i.1) (10,Y,d) tt_ok ⟨by simp,O⟩ ⟨rfl,trivial⟩ ?_
 rintro ⟨i,X,c⟩ wr ⟨⟨hi1,hi2⟩,O⟩
 simp only at hi1 hi2 O
 by_cases hlt:i<50
 ·conv=>whnf
  repeat ((first
   | refine Br.y ?_|refine CW.s ?_);conv=>whnf)
  refine Ru.b1 ?_
  intro g6 w6 hg6 r6 k6
  have O:=O.keep0 k6
  conv=>whnf
  refine Bu.grow O _ r6 (by omega) (by simp) (by omega) ?_
  intro Z e w7 O k7
  conv=>whnf
  exact ⟨(i+1,Z,e),⟨⟨by simp only;omega,by simp only;omega⟩,O.congr (fun j hj=>by
   by_cases h:j<i
   ·rw [if_pos h]
   ·rw [if_neg h]
    unfold bodyF
    rw [if_neg (by omega),if_neg (by omega),if_neg (by omega),if_neg (by omega),if_neg (by omega)])⟩,⟨rfl,trivial⟩,by simp only;omega⟩
 ·obtain rfl:i=50:=by omega
  conv=>whnf
  repeat ((first
   | refine Br.f ?_|refine CW.s ?_);conv=>whnf)
  exact ⟨rfl,X,c,rfl,O.from ((k1.trans k2).trans k3)⟩
end Go.Proofs.YtaeikigfgfcadaaGreat
namespace Go.Proofs.YtaeikigfgfcadaaGreat
open Go.RowKit
theorem same_sp (A B:Option Addr) (n m c d:Nat) (f g:Nat→Int) (w:World) (r0:Rd w A n (fun j=>.int .u8 (f j))) (r1:Rd w B m (fun j=>.int .u8 (g j))) (h0:n≤maxLen) (h1:m≤maxLen) :
  Spec Tryz.prog 86 #[.slice A n c,.slice B m d] w fun v w'=>v = .bool (sameB n m f g)∧Keep [] w w':=by
 refine ⟨by kernel_rfl,(same_ok A B n m c d f g w r0 r1 h0 h1).mono ?_⟩
 rintro e w' ⟨rfl,k⟩
 exact ⟨_,rfl,rfl,(Keep.refl [] w).drawn k⟩
theorem rd50 {w:World} {b o:Nat} {f:Nat→Int} (h:∀ j,j<50→w.cell? ⟨b,o+j,none⟩=some (.int .u8 (f j))):Rd w (some ⟨b,o,none⟩) 50 (fun j=>.int .u8 (f j)):=fun _=>⟨b,o,rfl,h⟩
open Classical in
noncomputable def tagV (f:Nat→Int):Tg × Bool:=if decOk f then (decT f,true) else (Tg.zero,false)
theorem tagV_bad {f:Nat→Int} (h:¬ decOk f):tagV f=(Tg.zero,false):=if_neg h
theorem tagV_ok {f:Nat→Int} (h:decOk f):tagV f=(decT f,true):=if_pos h
set_option maxHeartbeats 4000000 in
theorem rtag_ok (A:Option Addr) (c:Nat) (f:Nat→Int) (w:World) (r:Rd w A 50 (fun j=>.int .u8 (f j))) (hf:∀ j,0≤f j∧f j≤255) (hn:50≤c) (hm:c≤maxLen) :
  Spec Tryz.prog 55 #[.slice A 50 c] w fun v w'=>v = .tuple #[.agg (tagV f).1.arr,.bool (tagV f).2]∧Keep [] w w':=by
 obtain ⟨b,o,rfl,hc⟩:=r (by omega)
 have n2:numOf f 2<65536:=(numOf_bd f hf 2).2
 have n5:numOf (fun j=>f (3+j)) 5<1099511627776:=(numOf_bd (fun j=>f (3+j)) (fun j=>hf _) 5).2
 have m2:=(numOf_bd f hf 2).1
 have m5:=(numOf_bd (fun j=>f (3+j)) (fun j=>hf _) 5).1
 have f2:=hf 2
 have f8:=hf 8
 have f9:=hf 9
 refine spec_of_wpE (T:=tt) tt_ok Tryz.func55 rfl (by decide +kernel) Tryz.ntmps55 (by simp) ?_
 conv=>whnf
 refine Ru.alloctg ?_
 intro g w1 hg hs1 r1 k1
 have hc1:∀ j,j<50→w1.cell? ⟨b,o+j,none⟩=some (.int .u8 (f j)):=fun j hj=>(k1.cell (p:=⟨b,o+j,none⟩) (cell_lt (hc j hj)) (by simp)).trans (hc j hj)
 conv=>whnf
 refine CW.held (fun w'=>∀ j,j<50→w'.cell? ⟨b,o+j,none⟩=some (.int .u8 (f j))) [22] (.take 0 (.take 1 (.take 4 (.take 5 (.take 6 (.take 7 (.take 8 (.take 9 (.take 12 (.take 13 (.take 14 (.take 15 (.take 16 (.take 17 (.take 18 (.take 19 (.two 2 (.take 3 (.two 10 (.take 11 (.take 20 (.one 21 (.one 22 (.done))))) 21 (.one 10 (.take 11 (.take 20 (.one 22 (.done))))))) 21 (.one 2 (.take 3 (.one 10 (.take 11 (.take 20 (.one 22 (.done)))))))))))))))))))))))) tt_ok (by kernel_rfl) (by kernel_rfl) (by kernel_rfl) ?_ ?_
 ·exact hc1
 have hcd:∀ j,j<50→(w1.drewN 1).cell? ⟨b,o+j,none⟩=some (.int .u8 (f j)):=hc1
 have kd:Keep [] w1 (w1.drewN 1):=(Keep.refl [] w1).drewN 1
 conv=>whnf
 repeat ((first
  | (refine LdQ.at rfl (fun _ h=>h _ (by omega)) ?_)
  | (refine Ix.of 2 rfl (by omega) ?_)
  | (refine Ix.of 8 rfl (by omega) ?_)
  | (refine Ix.of 9 rfl (by omega) ?_)
  | (refine RuQ.sl_h Tryz.underlying37 byte_is (h:=2) (by omega) ?_)
  | (refine RuQ.sl_lh Tryz.underlying37 byte_is (l:=3) (h:=8) (by omega) (by omega) (by omega) ?_)
  | refine Ar.la ?_);conv=>whnf)
 refine ⟨?a,?b⟩
 case' a =>
  conv=>whnf
  refine Ca.of (rget_sp _ 2 c f _ ((rd50 hcd).mono_len (by omega)) hf (by omega)) ?_
  rintro _ _ ⟨rfl,rfl⟩
  conv=>whnf
  refine ⟨hcd,?_⟩
  conv=>whnf
  repeat ((first
   | refine Ar.la ?_);conv=>whnf)
  refine ⟨?c,?d⟩
  case' c =>
   conv=>whnf
   refine Ca.of (rget_sp _ 5 (c - 3) (fun j=>f (3+j)) _ ((rd50 hcd).part (k:=3) (m:=5) (by omega)) (fun j=>hf _) (by omega)) ?_
   rintro _ _ ⟨rfl,rfl⟩
   conv=>whnf
   refine ⟨hcd,?_⟩
   conv=>whnf
   repeat ((first
    | refine Ar.la ?_);conv=>whnf)
   refine RuQ.of (fun _ _=>build_tg _ _ _ _ _ _) ?_
   conv=>whnf
   refine Ru.alloctg ?_
   intro g7 w2 hg7 hs2 r7 k2
   have k2':Keep [] w1 w2:=kd.trans k2
   have hc2:∀ j,j<50→w2.cell? ⟨b,o+j,none⟩=some (.int .u8 (f j)):=fun j hj=>(k2'.cell (p:=⟨b,o+j,none⟩) (cell_lt (hc1 j hj)) (by simp)).trans (hc1 j hj)
   conv=>whnf
   refine ⟨hc2,?_⟩
   conv=>whnf
   refine Ru.sttg (t:=decT f) r7 ?_
   intro w3 r7 k3
  case' d =>
   conv=>whnf
   refine Ru.alloctg ?_
   intro g7 w2 hg7 hs2 r7 k2
   have k2':Keep [] w1 w2:=kd.trans k2
   have hc2:∀ j,j<50→w2.cell? ⟨b,o+j,none⟩=some (.int .u8 (f j)):=fun j hj=>(k2'.cell (p:=⟨b,o+j,none⟩) (cell_lt (hc1 j hj)) (by simp)).trans (hc1 j hj)
   conv=>whnf
   refine ⟨hc2,?_⟩
   conv=>whnf
   refine Ca.of (rget_sp _ 5 (c - 3) (fun j=>f (3+j)) _ ((rd50 hc2).part (k:=3) (m:=5) (by omega)) (fun j=>hf _) (by omega)) ?_
   rintro _ _ ⟨rfl,rfl⟩
   conv=>whnf
   refine ⟨hc2,?_⟩
   conv=>whnf
   repeat ((first
    | refine Ar.la ?_);conv=>whnf)
   refine RuQ.of (fun _ _=>build_tg _ _ _ _ _ _) ?_
   conv=>whnf
   refine Ru.sttg (t:=decT f) r7 ?_
   intro w3 r7 k3
 case' b =>
  conv=>whnf
  refine Ru.alloctg ?_
  intro g7 w2 hg7 hs2 r7 k2
  have k2':Keep [] w1 w2:=kd.trans k2
  have hc2:∀ j,j<50→w2.cell? ⟨b,o+j,none⟩=some (.int .u8 (f j)):=fun j hj=>(k2'.cell (p:=⟨b,o+j,none⟩) (cell_lt (hc1 j hj)) (by simp)).trans (hc1 j hj)
  conv=>whnf
  refine ⟨hc2,?_⟩
  conv=>whnf
  refine Ca.of (rget_sp _ 2 c f _ ((rd50 hc2).mono_len (by omega)) hf (by omega)) ?_
  rintro _ _ ⟨rfl,rfl⟩
  conv=>whnf
  refine ⟨hc2,?_⟩
  conv=>whnf
  repeat ((first
   | refine Ar.la ?_);conv=>whnf)
  refine Ca.of (rget_sp _ 5 (c - 3) (fun j=>f (3+j)) _ ((rd50 hc2).part (k:=3) (m:=5) (by omega)) (fun j=>hf _) (by omega)) ?_
  rintro _ _ ⟨rfl,rfl⟩
  conv=>whnf
  refine ⟨hc2,?_⟩
  conv=>whnf
  repeat ((first
   | refine Ar.la ?_);conv=>whnf)
  refine RuQ.of (fun _ _=>build_tg _ _ _ _ _ _) ?_
  conv=>whnf
  refine Ru.sttg (t:=decT f) r7 ?_
  intro w3 r7 k3
 all_goals
  have hbad:¬ ((decT f).ok∧∀ j,j<50→bodyF (decT f) j=f j)→tagV f=(Tg.zero,false):=tagV_bad
  have hgood:((decT f).ok∧∀ j,j<50→bodyF (decT f) j=f j)→tagV f=(decT f,true):=tagV_ok
  generalize decT f=t at *
  have k13:Keep [] w1 w3:=k2'.then k3 (fun x hx=>.inr (by rw [List.mem_singleton.1 hx,hg7];exact Nat.le_refl _))
  conv=>whnf
  refine Ru.ldtg r7 ?_
  conv=>whnf
  refine Ca.of (may_ok t w3) ?_
  rintro _ w4 ⟨rfl,k4⟩
  have r7:=r7.keep k4 (by simp)
  have k14:=k13.trans k4
  have kend:∀ w8 w9,Keep [] w4 w8→Keep [g] w8 w9→Keep [] w w9:=fun w8 w9 k8 k9=>((k1.trans k14).trans k8).then k9 (fun x hx=>.inr (by rw [List.mem_singleton.1 hx,hg];exact Nat.le_refl _))
  have r1:=r1.keep k14 (by simp)
  by_cases hok:t.ok
  case neg =>
   rw [hbad (fun h=>hok h.1),decide_eq_false hok]
   conv=>whnf
   repeat ((first
    | refine Br.t ?_|refine CW.s ?_);conv=>whnf)
   refine Ru.of (build_tg0 _) ?_
   conv=>whnf
   refine Ru.sttg (t:=Tg.zero) r1 ?_
   intro w5 r5 k5
   conv=>whnf
   refine Ru.ldtg r5 ?_
   exact ⟨rfl,rfl,kend _ _ (Keep.refl _ _) k5⟩
  rw [decide_eq_true hok]
  conv=>whnf
  repeat ((first
   | refine Br.f ?_|refine CW.s ?_);conv=>whnf)
  refine Ru.ldtg r7 ?_
  conv=>whnf
  refine Ca.of (rbody_ok t hok w4) ?_
  rintro _ w5 ⟨Y,d,rfl,O⟩
  have k5:=O.keep
  conv=>whnf
  refine Ca.of (same_sp Y (some ⟨b,o,none⟩) 50 50 d c (bodyF t) f w5 O.ly.rd1 (rd50 (fun j hj=>((k14.trans k5).cell (p:=⟨b,o+j,none⟩) (cell_lt (hc1 j hj)) (by simp)).trans (hc1 j hj))) (by simp [maxLen]) (by simp [maxLen])) ?_
  rintro _ w6 ⟨rfl,k6⟩
  have k46:=k5.trans k6
  have r7:=r7.keep k46 (by simp)
  have r1:=r1.keep k46 (by simp)
  by_cases hs:∀ j,j<50→bodyF t j=f j
  ·rw [hgood ⟨hok,hs⟩,sameB_yes rfl hs]
   conv=>whnf
   repeat ((first
    | refine Br.f ?_|refine CW.s ?_);conv=>whnf)
   refine Ru.ldtg r7 ?_
   conv=>whnf
   refine Ru.sttg (t:=t) r1 ?_
   intro w7 r7 k7
   conv=>whnf
   refine Ru.ldtg r7 ?_
   exact ⟨rfl,rfl,kend _ _ k46 k7⟩
  ·have hs2:sameB 50 50 (bodyF t) f=false:=decide_eq_false (fun h=>hs h.2)
   rw [hbad (fun h=>hs h.2),hs2]
   conv=>whnf
   repeat ((first
    | refine Br.t ?_|refine CW.s ?_);conv=>whnf)
   refine Ru.of (build_tg0 _) ?_
   conv=>whnf
   refine Ru.sttg (t:=Tg.zero) r1 ?_
   intro w7 r7 k7
   conv=>whnf
   refine Ru.ldtg r7 ?_
   exact ⟨rfl,rfl,kend _ _ k46 k7⟩
end Go.Proofs.YtaeikigfgfcadaaGreat
namespace Go.Proofs.YtaeikigfgfcadaaGreat
open Go.RowKit
set_option maxRecDepth 20000
theorem run_sliceArr {P:Program} {t e:TypeId} {g o n sz:Nat} {w:World} (hu:P.underlying t=some (.array n e)) (hs:(P.info? e).map (·.size)=some sz):(Instr.sliceAt t (.pointer (some ⟨g,o,none⟩)) none none none).run P w = .ok (.slice (some ⟨g,o,none⟩) n n) w:=by
 obtain ⟨v,w',h1,h2⟩:=Ru.sliceArr (w:=w) (g:=g) (o:=o) (K:=fun v w'=>v=_∧w'=w) hu hs ⟨rfl,rfl⟩
 rw [h1,h2.1,h2.2]
set_option maxHeartbeats 1000000 in
theorem truth_ok (w:World) (c a k:Nat) (C:Chip) (H:ChipAt w c C) (ha:a<96) (hk:k<4):Spec Tryz.prog 82 #[.pointer (some ⟨c,0,none⟩),.int .i64 a,.int .i64 k] w fun v w'=>∃ Y e,v = .tuple #[.slice Y 64 e,.bool (C.ch a k).is,errOf 0]∧Own w w' Y 64 e (fun j=>((C.ch a k).truth j:Nat)):=by
 refine spec_of_wpE (T:=tt) tt_ok Tryz.func82 rfl (by decide +kernel) Tryz.ntmps82 (by simp) ?_
 conv=>whnf
 refine Ca.of (at_ok w c a k ha hk) ?_
 rintro _ _ ⟨rfl,rfl⟩
 conv=>whnf
 repeat ((first
  | refine Br.f ?_|refine Ru.neq_nil0 ?_|refine CW.s ?_);conv=>whnf)
 refine CW.held (fun w'=>ChipAt w' c C) [] (.take 0 (.take 1 (.take 2 (.take 3 (.take 5 (.take 6 (.take 7 (.take 8 (.one 4 (.take 9 (.take 10 (.take 11 (.done))))))))))))) tt_ok (by kernel_rfl) (by kernel_rfl) (by kernel_rfl) ?_ ?_
 ·exact H.drewN 1
 have k1:=(Keep.refl [] w).drewN 1
 have H1:=H.drewN 1
 generalize w.drewN 1=w1 at *
 conv=>whnf
 repeat ((first
  | (refine RuQ.of (fun w hS=>run_sliceArr Tryz.underlying90 byte_sz1) ?_)
  | (refine LdQ.at (by omega) (fun _ h=>ChipAt.is h ha hk) ?_));conv=>whnf)
 refine Bu.grow (Own.start w1 (fun _=>0)) (fun j=>((C.ch a k).truth j:Nat)) (fun _=>⟨c,cbase a k+64,rfl,fun j hj=>?_⟩) (by omega) (fun e=>by cases e) (by omega) ?_
 ·have h1:=H1.truth ha hk hj
  rw [Nat.add_assoc,h1]
 intro Y e w3 O3 k3
 refine ⟨H1.keep O3.keep (by simp),?_⟩
 conv=>whnf
 rw [Nat.zero_add] at *
 exact ⟨rfl,Y,e,rfl,(O3.congr (fun j hj=>by rw [if_neg (by omega),Nat.sub_zero])).from k1⟩
def MsgEnd (w:World) (f:Nat→Nat) (v:Value) (w':World):Prop:=∃ g e,v = .tuple #[.slice (some ⟨g,0,none⟩) 58 e,.bool true]∧w.heap.size≤g∧58≤e∧e≤maxLen∧(∀ j,j<58→w'.cell? ⟨g,j,none⟩=some (.int .u8 (f j:Nat)))∧Keep [] w w'
set_option maxHeartbeats 1000000 in
theorem message_some (w:World) (c a k:Nat) (C:Chip) (H:ChipAt w c C) (ha:a<96) (hk:k<4) (hi:(C.ch a k).is=true):Spec Tryz.prog 53 #[.pointer (some ⟨c,0,none⟩),.int .i64 a,.int .i64 k] w (MsgEnd w (C.ch a k).truth):=by
 refine spec_of_wpE (T:=tt) tt_ok Tryz.func53 rfl (by decide +kernel) Tryz.ntmps53 (by simp) ?_
 conv=>whnf
 refine Ca.of (truth_ok w c a k C H ha hk) ?_
 rintro _ w1 ⟨Y,e,rfl,O⟩
 rw [hi]
 obtain ⟨g,rfl,-,-⟩:=O.ly.at1 (j:=0) (by omega)
 have hle:=O.ly.1
 have hle2:=O.ly.2.1
 conv=>whnf
 repeat ((first
  | (refine Ru.sl_h Tryz.underlying37 byte_szI (h:=58) (by omega) ?_)
  | refine Br.f ?_|refine Pk.f ?_|refine Ru.neq_nil0 ?_|refine CW.s ?_);conv=>whnf)
 exact ⟨rfl,g,e,rfl,O.new g (List.mem_singleton.2 rfl),by omega,hle2,fun j hj=>by
  obtain ⟨g',e1,e2,-⟩:=O.ly.at1 (j:=j) (by omega)
  cases e1
  exact e2,O.keep⟩
set_option maxHeartbeats 1000000 in
theorem message_none (w:World) (c a k:Nat) (C:Chip) (H:ChipAt w c C) (ha:a<96) (hk:k<4) (hi:(C.ch a k).is=false):Spec Tryz.prog 53 #[.pointer (some ⟨c,0,none⟩),.int .i64 a,.int .i64 k] w fun v w'=>v = .tuple #[.slice none 0 0,.bool false]∧Keep [] w w':=by
 refine spec_of_wpE (T:=tt) tt_ok Tryz.func53 rfl (by decide +kernel) Tryz.ntmps53 (by simp) ?_
 conv=>whnf
 refine Ca.of (truth_ok w c a k C H ha hk) ?_
 rintro _ w1 ⟨Y,e,rfl,O⟩
 rw [hi]
 conv=>whnf
 repeat ((first
  | refine Br.t ?_|refine Br.f ?_|refine Pk.f ?_|refine Pk.t ?_|refine Ru.neq_nil0 ?_|refine CW.s ?_);conv=>whnf)
 exact ⟨rfl,rfl,O.keep⟩
def mk8:Array Value := #[.int .u8 112,.int .u8 97,.int .u8 116,.int .u8 105,.int .u8 110,.int .u8 97,.int .u8 48,.int .u8 49]
theorem build_mk (w:World):(Instr.buildSlice 37 8 #[(0,.int .u8 112),(1,.int .u8 97),(2,.int .u8 116),(3,.int .u8 105),(4,.int .u8 110),(5,.int .u8 97),(6,.int .u8 48),(7,.int .u8 49)]).run Tryz.prog w = .ok (.slice (some ⟨w.heap.size,0,none⟩) 8 8) (w.alloc (.cells mk8 5)):=by kernel_rfl
theorem mark3_ok (w:World):Spec Tryz.prog 83 #[] w fun v w'=>∃ g,v = .slice (some ⟨g,0,none⟩) 8 8∧g=w.heap.size∧Row w' g 5 8 (fun j=>.int .u8 (markF j))∧Keep [] w w':=by
 refine spec_of_wpE (T:=tt) tt_ok Tryz.func83 rfl (by decide +kernel) Tryz.ntmps83 (by simp) ?_
 conv=>whnf
 refine Ru.of (build_mk w) ?_
 conv=>whnf
 exact ⟨rfl,_,rfl,rfl,Row.of_arr (heap_alloc_new w _) (by kernel_rfl),(Keep.refl _ _).alloc _⟩
set_option maxHeartbeats 2000000 in
theorem marked3_ok (w:World) (x o c:Nat) (f:Nat→Int) (hc:∀ j,j<58→w.cell? ⟨x,o+j,none⟩=some (.int .u8 (f j))) (hm:Marked f):Spec Tryz.prog 54 #[.slice (some ⟨x,o,none⟩) 58 c] w fun v w'=>v = .bool true∧Keep [] w w':=by
 have hxw:x<w.heap.size:=cell_lt (hc 0 (by omega))
 refine spec_of_wpE (T:=tt) tt_ok Tryz.func54 rfl (by decide +kernel) Tryz.ntmps54 (by simp) ?_
 conv=>whnf
 refine Ca.of (mark3_ok w) ?_
 rintro _ w1 ⟨g,rfl,hg,r1,k1⟩
 conv=>whnf
 repeat ((first
  | refine CW.s ?_);conv=>whnf)
 refine CW.loop (ι:=Nat) (fun i w'=>i≤8∧Row w' g 5 8 (fun j=>.int .u8 (markF j))∧Keep [] w w') (fun i=>[(0,.slice (some ⟨x,o,none⟩) 58 c),(3,.slice (some ⟨g,0,none⟩) 8 8),(4,.int .i64 i)]) (fun i=>8 - i) 0 tt_ok ⟨by omega,r1,k1⟩ ⟨rfl,rfl,rfl,trivial⟩ ?_
 rintro i wr ⟨hi,r,kk⟩
 rcases Nat.lt_or_ge i 8 with hlt | hge
 ·have hcr:wr.cell? ⟨x,o+(50+i),none⟩=some (.int .u8 (markF i)):=by
   rw [kk.cell hxw (by simp),hc _ (by omega),hm i hlt]
  conv=>whnf
  repeat ((first
   | refine Br.y ?_|refine CW.s ?_);conv=>whnf)
  refine CW.held (fun w'=>Row w' g 5 8 (fun j=>.int .u8 (markF j))∧w'.cell? ⟨x,o+(50+i),none⟩=some (.int .u8 (markF i))) [] (.take 0 (.take 1 (.take 2 (.take 3 (.take 4 (.take 5 (.take 6 (.take 7 (.take 8 (.take 9 (.done))))))))))) tt_ok (by kernel_rfl) (by kernel_rfl) (by kernel_rfl) ?_ ?_
  ·exact ⟨r.drewN 1,hcr⟩
  have k2:=kk.drewN 1
  have r2:=r.drewN 1
  generalize wr.drewN 1=w2 at *
  conv=>whnf
  repeat ((first
   | (refine Ix.of (50+i) (by omega) (by omega) ?_)
   | (refine Ix.of i (by omega) (by omega) ?_)
   | (refine LdQ.at (by omega) (fun _ h=>h.2) ?_)
   | (refine LdQ.at (by omega) (fun _ h=>Row.cell h.1 i (by omega)) ?_)
   | refine Ar.la ?_|refine Br.ny ?_);conv=>whnf)
  exact ⟨i+1,⟨hlt,r2,k2⟩,⟨rfl,rfl,vi (by first | omega | (simp only;omega)),trivial⟩,by simp only;omega⟩
 ·obtain rfl:i=8:=by omega
  conv=>whnf
  repeat ((first
   | refine Br.f ?_|refine CW.s ?_);conv=>whnf)
  exact ⟨rfl,rfl,kk⟩
end Go.Proofs.YtaeikigfgfcadaaGreat
namespace Go.Proofs.YtaeikigfgfcadaaGreat
open Go.RowKit
set_option maxRecDepth 20000
theorem full_ch {C:Chip} {P:CS} (hA:Abs C P) {p:Nat} (hp:p<96) {t:Tg} {D:Nat→Nat} (e:P.pg p = .full t D) {k:Nat} (hk:k<4):(C.ch p k).is=true∧(C.ch p k).truth=encP D t k:=by
 have h:=hA.page p hp
 rw [e] at h
 exact h.2.2.2.2 k hk
theorem nofull_is {C:Chip} {P:CS} (hA:Abs C P) {p:Nat} (hp:p<96) (e:∀ t D,P.pg p≠.full t D):(C.ch p 3).is=false:=by
 have h:=hA.page p hp
 cases hg:P.pg p with
 | blank =>
  rw [hg] at h
  exact (h 3 (by omega)).1
 | torn n =>
  rw [hg] at h
  rw [(h.2.2 3 (by omega)).1]
  exact decide_eq_false (by have:=h.2.1;omega)
 | full t D=>exact absurd hg (e t D)
theorem encP_data (D:Nat→Nat) (t:Tg) {k j:Nat} (hk:k<3) (hj:j<58):encP D t k j=D (k * 58+j):=by
 unfold encP GF.encW
 rw [if_pos hj]
 unfold msg58 layF
 rw [if_pos (by omega)]
set_option maxHeartbeats 2000000 in
theorem tdata_ok (w:World) (c p:Nat) (C:Chip) (H:ChipAt w c C) {P:CS} (hA:Abs C P) (hp:p<96) {t:Tg} {D:Nat→Nat} (e:P.pg p = .full t D):Spec Tryz.prog 34 #[.pointer (some ⟨c,0,none⟩),.int .i64 p] w fun v w'=>∃ Y d,v = .slice Y 174 d∧Own w w' Y 174 d (fun j=>(D j:Nat)):=by
 refine spec_of_wpE (T:=tt) tt_ok Tryz.func34 rfl (by decide +kernel) Tryz.ntmps34 (by simp) ?_
 conv=>whnf
 repeat ((first
  | refine CW.s ?_);conv=>whnf)
 refine CW.loop (ι:=Nat × Option Addr × Nat) (fun i w'=>i.1≤3∧Own w w' i.2.1 (i.1 * 58) i.2.2 (fun j=>(D j:Nat))) (fun i=>[(0,.pointer (some ⟨c,0,none⟩)),(1,.int .i64 p),(5,.slice i.2.1 (i.1 * 58) i.2.2),(6,.int .i64 i.1)]) (fun i=>3 - i.1) (0,none,0) tt_ok ⟨by simp,Own.start w _⟩ ⟨rfl,rfl,rfl,rfl,trivial⟩ ?_
 rintro ⟨i,X,d⟩ wr ⟨hi,O⟩
 simp only at hi O ⊢
 rcases Nat.lt_or_ge i 3 with hlt | hge
 ·have Hr:=H.keep O.keep (by simp)
  obtain ⟨h1,h2⟩:=full_ch hA hp e (k:=i) (by omega)
  conv=>whnf
  repeat ((first
   | refine Br.y ?_|refine CW.s ?_);conv=>whnf)
  refine Ca.of (message_some wr c p i C Hr hp (by omega) h1) ?_
  rintro _ w2 ⟨g,b,rfl,hg,hb1,hb2,hc,k2⟩
  rw [h2] at hc
  have O2:=O.keep0 k2
  conv=>whnf
  repeat ((first
   | refine Br.f ?_|refine CW.s ?_);conv=>whnf)
  refine Bu.grow O2 (fun j=>((D (i * 58+j):Nat):Int)) (fun _=>⟨g,0,rfl,fun j hj=>?_⟩) hb1 (by simp) (by omega) ?_
  ·rw [Nat.zero_add,hc j hj,encP_data D t hlt hj]
  intro Y d2 w3 O3 k3
  conv=>whnf
  repeat ((first
   | refine Ar.la ?_);conv=>whnf)
  refine ⟨(i+1,Y,d2),⟨by simp only;omega,?_⟩,⟨rfl,rfl,?_,vi (by first | omega | (simp only;omega)),trivial⟩,by simp only;omega⟩
  ·simp only
   rw [show (i+1) * 58=i * 58+58 by omega]
   exact O3.congr (fun j hj=>by
    by_cases h:j<i * 58
    ·rw [if_pos h]
    ·rw [if_neg h,show i * 58+(j - i * 58)=j by omega])
  ·simp only
   rw [show (i+1) * 58=i * 58+58 by omega]
   exact rfl
 ·obtain rfl:i=3:=by omega
  conv=>whnf
  repeat ((first
   | refine Br.f ?_|refine CW.s ?_);conv=>whnf)
  exact ⟨rfl,X,d,rfl,O⟩
attribute [local irreducible] fdsTo
set_option maxHeartbeats 8000000 in
theorem truths_ok (w:World) (c:Nat) (C:Chip) (H:ChipAt w c C) {P:CS} (hA:Abs C P):Spec Tryz.prog 35 #[.pointer (some ⟨c,0,none⟩)] w fun v w'=>∃ Z cz,v = .slice Z (fdsTo P 96).length cz∧Ly w' 69 6 Z (fdsTo P 96).length cz (fdF (fdsTo P 96))∧(∀ x,x∈blk Z→w.heap.size≤x)∧Keep [] w w':=by
 obtain ⟨i0,hi0,hz0,hz1,hz2⟩:=info_parts found_info
 refine spec_of_wpE (T:=tt) tt_ok Tryz.func35 rfl (by decide +kernel) Tryz.ntmps35 (by simp) ?_
 conv=>whnf
 repeat ((first
  | refine CW.s ?_);conv=>whnf)
 refine CW.loop (ι:=Nat × Option Addr × Nat) (fun i w'=>i.1≤96∧Ly w' 69 6 i.2.1 (fdsTo P i.1).length i.2.2 (fdF (fdsTo P i.1))∧(∀ x,x∈blk i.2.1→w.heap.size≤x)∧Keep [] w w')
  (fun i=>[(0,.pointer (some ⟨c,0,none⟩)),(3,.slice i.2.1 (fdsTo P i.1).length i.2.2),(4,.int .i64 i.1)]) (fun i=>96 - i.1) (0,none,0) tt_ok ⟨by omega,by rw [fdsTo_zero];exact Ly.nil _ _ _ _,(fun _ h=>nomatch h),Keep.refl _ _⟩ ⟨rfl,by rw [fdsTo_zero];rfl,rfl,trivial⟩ ?_
 rintro ⟨i,Z,cz⟩ wr ⟨hi,ly,hZ,kk⟩
 simp only at hi ly hZ kk ⊢
 rcases Nat.lt_or_ge i 96 with hlt | hge
 ·have Hr:=H.keep kk (by simp)
  by_cases hfull:∃ t D,P.pg i = .full t D
  ·obtain ⟨t,D,hp⟩:=hfull
   have hpg:=hA.page i hlt
   rw [hp] at hpg
   obtain ⟨ht,hta,hD,-,hk⟩:=hpg
   obtain ⟨h1,h2⟩:=hk 3 (by omega)
   have efd:=fdsTo_full hp
   have hlen:=fdsTo_len P i
   obtain ⟨⟨hm,hdec,-⟩,hdT⟩:=tag_word hD ht hta (V:=(C.ch i 3).truth) (fun j hj=>by rw [h2])
   conv=>whnf
   repeat ((first
    | refine Br.y ?_|refine CW.s ?_);conv=>whnf)
   refine Ca.of (message_some wr c i 3 C Hr hlt (by omega) h1) ?_
   rintro _ w2 ⟨g,b,rfl,hg,hb1,hb2,hc,k2⟩
   conv=>whnf
   repeat ((first
    | refine Br.f ?_|refine CW.s ?_);conv=>whnf)
   refine Ca.of (marked3_ok w2 g 0 b (natI (C.ch i 3).truth) (fun j hj=>by rw [Nat.zero_add];exact hc j hj) hm) ?_
   rintro _ w3 ⟨rfl,k3⟩
   have hc3:∀ j,j<58→w3.cell? ⟨g,0+j,none⟩=some (.int .u8 (natI (C.ch i 3).truth j)):=fun j hj=>by
    rw [Nat.zero_add,k3.cell (cell_lt (hc j hj)) (by simp)]
    exact hc j hj
   conv=>whnf
   repeat ((first
    | (refine Ru.sl_h Tryz.underlying37 byte_szI (h:=50) (by omega) ?_));conv=>whnf)
   refine Ca.of (rtag_ok (some ⟨g,0,none⟩) b (natI (C.ch i 3).truth) w3 (fun _=>⟨g,0,rfl,fun j hj=>hc3 j (by omega)⟩) (fun j=>by unfold natI;have:=hA.wf.truth i 3 j;omega) (by omega) hb2) ?_
   rintro _ w4 ⟨rfl,k4⟩
   rw [tagV_ok hdec,hdT]
   have ly4:=((ly.keep0 k2).keep0 k3).keep0 k4
   have kk4:=((kk.trans k2).trans k3).trans k4
   clear hc hc3 k2 k3 k4 ly kk Hr
   conv=>whnf
   refine Ru.alloctg ?_
   intro x8 w5 hx8 hs5 r8 k5
   conv=>whnf
   refine Ru.sttg (t:=t) r8 ?_
   intro w6 r86 k6
   have q6:Keep [] w4 w6:=k5.then k6 (fun x hx=>.inr (by rw [List.mem_singleton.1 hx,hx8];exact Nat.le_refl _))
   have ly6:=ly4.keep0 q6
   have kk6:=kk4.trans q6
   have c80:w6.cell? ⟨x8,0,none⟩=some (.int .i64 (i:Nat)):=by
    have:=r86.cell 0 (by omega)
    rw [this]
    show some (Value.int .i64 t.place)=_
    rw [hta]
   clear k5 k6 q6 r8 hs5 ly4 kk4
   conv=>whnf
   repeat ((first
    | (refine Ld.at (by omega) c80 ?_)
    | (refine Ru.ldtg r86 ?_)
    | refine Br.t ?_|refine Pk.t ?_|refine Br.y ?_);conv=>whnf)
   refine Ru.of (build_found i t w6) ?_
   conv=>whnf
   refine Ru.buildfd (fdOf i t) ?_
   intro x34 w7 hx34 hs7 r34 k7
   conv=>whnf
   refine Bu.append Tryz.underlying64 hi0 hz0 hz1 hz2 rfl (by omega) (ly6.keep0 k7) _ (Rd.of_row r34 (n:=1 * 6) (by omega)) (by omega) (by simp) (fun j hj=>fd_one_cell _ j hj) (by simp only [maxLen];omega) (by omega) ?_
   intro Y cY w8 hy k8 hat hpre
   have kk7:=kk6.trans k7
   have lyY:Ly w8 69 6 Y (fdsTo P (i+1)).length cY (fdF (fdsTo P (i+1))):=by
    rw [efd,List.length_append,List.length_singleton]
    exact hy.congr (fun j hj=>by rw [fdF_snoc _ _ j hj])
   have hlY:(Value.slice Y ((fdsTo P i).length+1) cY) = .slice Y (fdsTo P (i+1)).length cY:=by rw [efd];simp
   conv=>whnf
   repeat ((first
    | refine Ar.la ?_);conv=>whnf)
   refine ⟨(i+1,Y,cY),⟨hlt,lyY,fun x hx=>?_,kk7.then k8 (fun x hx=>.inr (hZ x hx))⟩,⟨rfl,hlY,vi (by first | omega | (simp only;omega)),trivial⟩,by simp only;omega⟩
   rcases hat with e | e
   ·rw [e] at hx
    exact hZ x hx
   ·rw [e] at hx
    rw [List.mem_singleton.1 hx]
    exact kk7.size
  ·have hno:∀ t D,P.pg i≠.full t D:=fun t D e=>hfull ⟨t,D,e⟩
   have efd:=fdsTo_not hno
   conv=>whnf
   repeat ((first
    | refine Br.y ?_|refine CW.s ?_);conv=>whnf)
   refine Ca.of (message_none wr c i 3 C Hr hlt (by omega) (nofull_is hA hlt hno)) ?_
   rintro _ w2 ⟨rfl,k2⟩
   conv=>whnf
   repeat ((first
    | refine Br.t ?_|refine Ar.la ?_|refine CW.s ?_);conv=>whnf)
   exact ⟨(i+1,Z,cz),⟨hlt,by simp only;rw [efd];exact ly.keep0 k2,hZ,kk.trans k2⟩,⟨rfl,by rw [efd];rfl,vi (by first | omega | (simp only;omega)),trivial⟩,by simp only;omega⟩
 ·obtain rfl:i=96:=by omega
  conv=>whnf
  repeat ((first
   | refine Br.f ?_|refine CW.s ?_);conv=>whnf)
  exact ⟨rfl,Z,cz,rfl,ly,hZ,kk⟩
end Go.Proofs.YtaeikigfgfcadaaGreat
namespace Go.Proofs.YtaeikigfgfcadaaGreat
open Go.RowKit
theorem fds_inc (P:CS):∀ n i k,i<k→k<(fdsTo P n).length→((fdsTo P n).getD i Fd.zero).place<((fdsTo P n).getD k Fd.zero).place
 | 0,i,k,_,h=>by
  rw [fdsTo_zero] at h
  exact absurd h (by simp)
 | n+1,i,k,hik,h=>by
  have ih:=fds_inc P n i k hik
  by_cases hf:∃ t D,P.pg n = .full t D
  ·obtain ⟨t,D,hp⟩:=hf
   rw [fdsTo_full hp] at h ⊢
   rw [List.length_append,List.length_singleton] at h
   by_cases hk:k<(fdsTo P n).length
   ·rw [List.getD_eq_getElem?_getD,List.getD_eq_getElem?_getD,List.getElem?_append_left (by omega),List.getElem?_append_left hk, ← List.getD_eq_getElem?_getD, ← List.getD_eq_getElem?_getD]
    exact ih hk
   ·obtain rfl:k=(fdsTo P n).length:=by omega
    rw [List.getD_eq_getElem?_getD,List.getD_eq_getElem?_getD,List.getElem?_append_left (by omega),List.getElem?_append_right (Nat.le_refl _), ← List.getD_eq_getElem?_getD]
    have hm:(fdsTo P n).getD i Fd.zero∈fdsTo P n:=by
     rw [List.getD_eq_getElem?_getD,List.getElem?_eq_getElem hik]
     exact List.getElem_mem hik
    obtain ⟨p,t',D',h1,h2,h3⟩:=fdsTo_mem hm
    rw [h3,Nat.sub_self]
    show (p:Int)<(n:Int)
    omega
  ·rw [fdsTo_not (fun t D e=>hf ⟨t,D,e⟩)] at h ⊢
   exact ih h
theorem fds_at (P:CS) {n i:Nat} (h:i<(fdsTo P n).length):∃ p t D,p<n∧P.pg p = .full t D∧(fdsTo P n).getD i Fd.zero=fdOf p t:=by
 have hm:(fdsTo P n).getD i Fd.zero∈fdsTo P n:=by
  rw [List.getD_eq_getElem?_getD,List.getElem?_eq_getElem h]
  exact List.getElem_mem h
 exact fdsTo_mem hm
set_option maxRecDepth 20000
structure SqI (w0:World) (ch x7:Nat) (L:List Cl) (A:Option Addr) (Z:List Int) (C:Option Addr) (i d:Nat) (own:List Nat) (K:KS) (P:CS) (k:Cp) (a:Nat→Nat) (w:World):Prop where
 on:DvOn w own d ch K P none
 inv:Inv K P k (2+2 * (i:Int))
 qu:K.qu=[]
 sh:Shows P K.at_ (arB a)
 nx:NX 0 K P
 c0:0≤K.calls
 c8:K.calls<8
 new:∀ x,x∈own→w0.heap.size≤x
 r7:Row w x7 28 24 (arF a)
 hL:Rd w A (L.length * 3) (clF L)
 hZ:Rd w C Z.length (inF Z)
 kk:Keep [] w0 w
 ha:∀ o,a o≤1000000
structure SqJ (w0:World) (wb:Nat) (N:Cr) (K:KS) (P:CS) (n9:Int) (X:Option Addr) (c9 d ch x7 x15:Nat) (C1:Chip) (a:Nat→Nat) (Y:Option Addr) (cy:Nat) (F:List Fd) (B:Option Addr) (e:Nat) (hs:List Int) (w:World):Prop where
 on:On w N K P none n9 X c9
 rd:DvRow w d ch (some ⟨N.k,0,none⟩)
 cp:ChipAt w ch C1
 r7:Row w x7 28 24 (arF a)
 rv:Row w x15 72 67 (vwF K)
 ly:Ly w 69 6 Y F.length cy (fdF F)
 hd:Ly w 2 1 B hs.length e (fun j=>.int .i64 (hs.getD j 0))
 nb:∀ x,x∈blk B→wb≤x
 kk:Keep [] w0 w
theorem SqJ.keep0 {w0 w w':World} {wb:Nat} {N:Cr} {K:KS} {P:CS} {n9:Int} {X:Option Addr} {c9 d ch x7 x15:Nat} {C1:Chip} {a:Nat→Nat} {Y:Option Addr} {cy:Nat} {F:List Fd} {B:Option Addr} {e:Nat} {hs:List Int} (h:SqJ w0 wb N K P n9 X c9 d ch x7 x15 C1 a Y cy F B e hs w) (k:Keep [] w w'):SqJ w0 wb N K P n9 X c9 d ch x7 x15 C1 a Y cy F B e hs w' :=
 ⟨h.on.keep0 k,Row.keep h.rd k (by simp),h.cp.keep k (by simp),h.r7.keep k (by simp),h.rv.keep k (by simp),h.ly.keep0 k,h.hd.keep0 k,h.nb,h.kk.trans k⟩
theorem i64_info:(Tryz.prog.info? 2).map (fun i=>(i.zero,i.size,i.bytes))=some (some (.int .i64 0),1,8):=by kernel_rfl
theorem build_i64 (v:Int) (w:World):(Instr.buildSlice 78 1 #[(0,.int .i64 v)]).run Tryz.prog w = .ok (.slice (some ⟨w.heap.size,0,none⟩) 1 1) (w.alloc (rowObj 1 (fun _=>.int .i64 v) 2)):=by kernel_rfl
set_option maxHeartbeats 16000000 in
theorem seqs_ok {w:World} {L:List Cl} {Z:List Int} {A C:Option Addr} {cA cC:Nat} (hL:Rd w A (L.length * 3) (clF L)) (hZ:Rd w C Z.length (inF Z)) (hLw:∀ c,c∈L→c.wf) (hZw:∀ z,z∈Z→i64R z) (hL1:L.length≤1048576) :
  Spec Tryz.prog 11 #[.slice A L.length cA,.slice C Z.length cC] w fun v w'=>v = .bool true∧Keep [] w w':=by
 refine spec_of_wpE (T:=tt) tt_ok Tryz.func11 rfl (by decide +kernel) Tryz.ntmps11 (by simp) ?_
 conv=>whnf
 refine Ca.of (begun_okC (L:=[]) (A:=none) (cA:=0) (fun h=>by simp at h) (fun _ h=>nomatch h) (by simp)) ?_
 rintro _ w1 ⟨ch,d,own,K,P,k,rfl,Bg,K0,P0,tr0,k0,M0,I0,-,hz⟩
 obtain ⟨D,I,q,s,nw,kb⟩:=Bg
 have hc0:=mounts_calls M0
 obtain ⟨rfl,rfl⟩:=hz.nil (by simp)
 have cl0:0≤K.calls:=by rw [hc0];exact Int.le_refl _
 have cl8:K.calls<8:=by rw [hc0];omega
 have nx:NX 0 K P:=first_nx I0
 have I:Inv K P k (2+2 * ((0:Nat):Int)):=I
 clear hz M0 I0 hc0
 conv=>whnf
 refine Ru.alloca (alloc_ar w1) ?_
 intro x7 w2 hx7 hs2 r7 k2
 conv=>whnf
 refine Ru.sta r7 size_ar (by omega) (fun j hj=>arF_one _ j) ?_
 intro w3 r73 k3
 have r73:Row w3 x7 28 24 (arF (playA (fun _=>0) (L.take 0))):=r73.congr (fun j hj=>by unfold lay;rw [if_pos (by omega),Nat.sub_zero];rfl)
 have q3:Keep [] w1 w3:=k2.then k3 (fun x hx=>.inr (by rw [List.mem_singleton.1 hx,hx7];exact Nat.le_refl _))
 have kk3:=kb.trans q3
 have hx7w:w.heap.size≤x7:=by have:=kb.size;omega
 have S3:SqI w ch x7 L A Z C 0 d own K P k (playA (fun _=>0) (L.take 0)) w3:=⟨D.keep0 q3,I,q,s,nx,cl0,cl8,nw,r73,hL.keep0 kk3,hZ.keep0 kk3,kk3,playA_le (fun _=>by omega) _⟩
 clear D I q s nw kb nx cl0 cl8 r7 r73 k2 k3 q3 kk3 hs2 hx7
 conv=>whnf
 repeat ((first
  | refine CW.s ?_);conv=>whnf)
 refine Ru.of (chip_eq w3 _ _) ?_
 conv=>whnf
 repeat ((first
  | refine Br.f ?_|refine CW.s ?_);conv=>whnf)
 refine CW.loop (ι:=Nat × Nat × List Nat × KS × CS × Cp × Int) (fun i w'=>i.1≤L.length∧SqI w ch x7 L A Z C i.1 i.2.1 i.2.2.1 i.2.2.2.1 i.2.2.2.2.1 i.2.2.2.2.2.1 (playA (fun _=>0) (L.take i.1)) w'∧i.2.2.2.2.2.2≤i.2.2.2.1.next)
  (fun i=>[(0,.slice A L.length cA),(1,.slice C Z.length cC),(5,.pointer (some ⟨ch,0,none⟩)),(6,.pointer (some ⟨i.2.1,0,none⟩)),(7,.pointer (some ⟨x7,0,none⟩)),(8,.int .i64 i.2.2.2.2.2.2),(9,.int .i64 i.1)]) (fun i=>L.length - i.1) (0,d,own,K,P,k,0) tt_ok
  ⟨by omega,S3,by have:=S3.inv.l.next.2.1;simp only;omega⟩ ⟨rfl,rfl,rfl,rfl,rfl,rfl,rfl,trivial⟩ ?_
 clear S3
 rintro ⟨i,d,own,K,P,k,last⟩ wr ⟨hi,⟨D,I,q,s,nx,cl0,cl8,nw,r7,hLr,hZr,kk,ha⟩,hlast⟩
 simp only at hi D I q s nx cl0 cl8 nw r7 hLr hZr kk ha hlast ⊢
 rcases Nat.lt_or_ge i L.length with hlt | hge
 ·obtain ⟨g,o,rfl,hcell⟩:=cl_cells hLr hlt
  have htk:=cl_take hlt
  have hcw:=hLw _ (cl_mem hlt)
  generalize L.getD i ⟨0,0,0⟩=c at *
  have hst:playA (fun _=>0) (L.take (i+1))=c.arr (playA (fun _=>0) (L.take i)):=by rw [htk,playA_snoc]
  generalize playA (fun _=>0) (L.take i)=a at *
  have hgw:g<w.heap.size:=by
   obtain ⟨g',o',e',h'⟩:=hL (by omega)
   cases e'
   exact cell_lt (h' 0 (by omega))
  by_cases hz:i<Z.length
  case' neg =>
   have hb:decide ((i:Int)<(Z.length:Nat))=false:=decide_eq_false (by omega)
   conv=>whnf
   repeat ((first
    | refine Br.f ?_|refine Pk.f ?_|refine Br.y ?_|refine Br.n ?_|refine CW.s ?_);conv=>whnf)
   obtain ⟨w5,ew⟩:∃ w5,w5=wr:=⟨_,rfl⟩
   rw [← ew] at D r7 hLr hZr kk hcell ⊢
   clear ew
  case' pos =>
   have hb:decide ((i:Int)<(Z.length:Nat))=true:=decide_eq_true (by omega)
   obtain ⟨gz,oz,rfl,hcz⟩:=hZr (by omega)
   have hZr:Rd wr (some ⟨gz,oz,none⟩) Z.length (inF Z):=fun _=>⟨gz,oz,rfl,hcz⟩
   have hzw:=hZw _ (lst_mem hz)
   have cz:wr.cell? ⟨gz,oz+i,none⟩=some (.int .i64 (Z.getD i 0)):=hcz i hz
   conv=>whnf
   repeat ((first
    | (refine Ix.of i (by omega) (by omega) ?_)
    | (refine Ld.at (by omega) cz ?_)
    | refine Br.t ?_|refine Br.y ?_|refine CW.s ?_);conv=>whnf)
   refine Ca.of (some_ok _ 5 hzw (by omega) wr) ?_
   rintro _ _ ⟨rfl,rfl⟩
   by_cases h50:someN (Z.getD i 0) 5=0
   case' neg =>
    have hb2:decide (((someN (Z.getD i 0) 5:Nat):Int)=0)=false:=decide_eq_false (by omega)
    conv=>whnf
    repeat ((first
     | refine Br.t ?_|refine Pk.t ?_|refine Br.n ?_);conv=>whnf)
    obtain ⟨w5,ew⟩:∃ w5,w5=wr:=⟨_,rfl⟩
    rw [← ew] at D r7 hLr hZr kk hcell ⊢
    clear ew cz hcz
   case' pos =>
    have hb2:decide (((someN (Z.getD i 0) 5:Nat):Int)=0)=true:=decide_eq_true (by omega)
    conv=>whnf
    repeat ((first
     | refine Br.t ?_|refine Pk.t ?_|refine Br.y ?_);conv=>whnf)
    obtain ⟨C1,H1,hA1,hl1⟩:=D.chip
    obtain ⟨K5,P5,tr5,M5,I5,q5,n5,c5,nx5,hs5⟩:=mount_nx I (by omega) nx
    have s5:=hs5 _ s
    clear hs5
    refine Ca.of (onchip_ok H1 hA1 hl1 I.l.ok.gd.calm M5 q5) ?_
    rintro _ w5 ⟨k5,hr5⟩
    rcases hr5 with ⟨f5,d5,own5,rfl,D5,ho5⟩ | ⟨y,hy,hyb,-⟩
    case inr=>cases hyb
    have hcho:=D.in_own.2
    have hchw:=nw ch hcho
    have r75:=r7.keep k5 (fun hm=>D.far r7 (by decide) (by rw [List.mem_singleton.1 hm];exact hcho))
    have hL5:=rd_far hL hLr k5 (fun x hx=>by rw [List.mem_singleton.1 hx];exact hchw)
    have hZ5:=rd_far hZ hZr k5 (fun x hx=>by rw [List.mem_singleton.1 hx];exact hchw)
    have hcell5:∀ j,j<3→w5.cell? ⟨g,o+i * 3+j,none⟩=some (c.cell j):=fun j hj=>(k5.cell (cell_lt (hcell j hj)) (fun hm=>by have:g=ch:=List.mem_singleton.1 hm;omega)).trans (hcell j hj)
    have kk5:=kk.fresh hchw k5
    have hsr:=kk.size
    have nw5:∀ x,x∈own5→w.heap.size≤x:=fun x hx=>by
     rcases ho5 x hx with h | h
     ·rw [h];exact hchw
     ·omega
    have hlast5:last≤K5.next:=by omega
    have cl05:0≤K5.calls:=by omega
    have cl85:K5.calls<8:=by omega
    clear D I q s nx cl0 cl8 nw r7 hLr hZr kk hcell hlast k5 H1 hA1 hl1 M5 cz hcz n5 c5 ho5 hcho hchw hsr
    conv=>whnf
    refine Ru.of (dev_none w5 _ _) ?_
    conv=>whnf
    repeat ((first
     | refine Br.f ?_);conv=>whnf)
    obtain ⟨D,I,q,s,nx,cl0,cl8,nw⟩:DvOn w5 own5 d5 ch K5 P5 none∧Inv K5 P5 k (2+2 * (i:Int))∧K5.qu=[]∧Shows P5 K5.at_ (arB a)∧NX 0 K5 P5∧0≤K5.calls∧K5.calls<8∧∀ x,x∈own5→w.heap.size≤x:=⟨D5,I5,q5,s5,nx5,cl05,cl85,nw5⟩
    have r7:=r75
    have hLr:=hL5
    have hZr:=hZ5
    have kk:=kk5
    have hcell:=hcell5
    have hlast:=hlast5
    clear D5 I5 q5 s5 nx5 cl05 cl85 nw5 r75 hL5 hZ5 kk5 hcell5 hlast5
    generalize K5=K at *
    generalize P5=P at *
    generalize own5=own at *
    generalize d5=d at *
  all_goals
   clear hb
   obtain ⟨K2,P2,k2',t1,t2,rd,CE,An,hcall⟩:=does_call I q (by omega) hcw s
   obtain ⟨⟨cl02,cl82,-⟩,hJ2⟩:=CE.st cl0 cl8
   have nx2:NX 0 K2 P2:=hJ2 NX nx_stab 0 nx
   have hnx2:=CE.next
   have hgo:g∉own:=fun hx=>by have:=nw g hx;omega
   refine CW.held (fun w'=>Row w' x7 28 24 (arF a)∧∀ j,j<3→w'.cell? ⟨g,o+i * 3+j,none⟩=some (c.cell j)) [] (.take 0 (.take 1 (.take 2 (.take 3 (.take 4 (.take 5 (.two 6 (.take 7 (.take 8 (.take 9 (.take 10 (.one 11 (.one 12 (.take 13 (.take 14 (.done))))))))) 11 (.one 6 (.take 7 (.take 8 (.take 9 (.take 10 (.one 12 (.take 13 (.take 14 (.done)))))))))))))))) tt_ok (by kernel_rfl) (by kernel_rfl) (by kernel_rfl) ?_ ?_
   ·exact ⟨Row.drewN r7 1,hcell⟩
   have q2:=(Keep.refl [] w5).drewN 1
   have D2:=D.keep0 q2
   have r72:=r7.keep q2 (by simp)
   have hL2:=hLr.keep0 q2
   have hZ2:=hZr.keep0 q2
   have hc2:∀ j,j<3→(w5.drewN 1).cell? ⟨g,o+i * 3+j,none⟩=some (c.cell j):=hcell
   have kk2:=kk.trans q2
   clear D r7 hLr hZr hcell kk q2 hJ2
   generalize w5.drewN 1=w2 at *
   conv=>whnf
   repeat ((first
    | (refine RuQ.of (fun w hS=>run_ldaC (q:=arF a) hS.1 Tryz.underlying28 rfl size_ar (by omega) (fun j hj=>by rw [Nat.zero_add])) ?_)
    | (refine Ix.of i (by omega) (by omega) ?_)
    | (refine RuQ.of (fun w hS=>run_ldcl hS.2) ?_));conv=>whnf)
   refine And.intro ?_ ?_
   case' refine_1 =>
    refine Ca.of (hcall D2) ?_
    rintro u w3 ⟨k3,hr3⟩
    rcases hr3 with ⟨f3,⟨Y,n,e,f,rfl,hm1,hm2⟩,own3,D3,h3⟩ | ⟨y,hy,hyb,-⟩
    case inr=>cases hyb
    have r73:=r72.keep k3 (D2.far r72 (by decide))
    have hL3:=rd_far hL hL2 k3 nw
    have hZ3:=rd_far hZ hZ2 k3 nw
    have hc3:∀ j,j<3→w3.cell? ⟨g,o+i * 3+j,none⟩=some (c.cell j):=fun j hj=>(k3.cell (cell_lt (hc2 j hj)) hgo).trans (hc2 j hj)
    have kk3:Keep [] w w3:=kk2.then k3 (fun x hx=>.inr (nw x hx))
    have hs2:=kk2.size
    have nw3:∀ x,x∈own3→w.heap.size≤x:=fun x hx=>by
     rcases h3 x hx with h | h
     ·exact nw x h
     ·omega
    clear D2 r72 hL2 hZ2 hc2 k3 h3 kk2 hs2
    refine ⟨⟨r73,hc3⟩,?_⟩
    conv=>whnf
    refine Ru.alloca (alloc_ar w3) ?_
    intro x10 w4 hx10 hs4 r10 k4
    refine ⟨⟨r73.keep k4 (by simp),fun j hj=>(k4.cell (cell_lt (hc3 j hj)) (by simp)).trans (hc3 j hj)⟩,?_⟩
    conv=>whnf
    refine Ru.sta r10 size_ar (by omega) (fun j hj=>arF_one _ j) ?_
    intro w6 r106 k6
    have r106:Row w6 x10 28 24 (arF (c.arr a)):=r106.congr (fun j hj=>by unfold lay;rw [if_pos (by omega),Nat.sub_zero])
    have q6:Keep [] w3 w6:=k4.then k6 (fun x hx=>.inr (by rw [List.mem_singleton.1 hx,hx10];exact Nat.le_refl _))
    have D6:=D3.keep0 q6
    have r76:=r73.keep q6 (by simp)
    have hL6:=hL3.keep0 q6
    have hZ6:=hZ3.keep0 q6
    have hc6:∀ j,j<3→w6.cell? ⟨g,o+i * 3+j,none⟩=some (c.cell j):=fun j hj=>(q6.cell (cell_lt (hc3 j hj)) (by simp)).trans (hc3 j hj)
    have kk6:=kk3.trans q6
    have h710:x7≠x10:=by have:=r73.lt;omega
    clear D3 r73 hL3 hZ3 hc3 k4 k6 r10 hs4 kk3 q6 hm2 hx10
    refine ⟨⟨r76,hc6⟩,?_⟩
    conv=>whnf
   case' refine_2 =>
    refine Ru.alloca (alloc_ar w2) ?_
    intro x10 w3 hx10 hs4 r10 k4
    have h710:x7≠x10:=by have:=r72.lt;omega
    have h10w:w.heap.size≤x10:=by have:=kk2.size;omega
    have D3:=D2.keep0 k4
    have r73:=r72.keep k4 (by simp)
    have hL3:=hL2.keep0 k4
    have hZ3:=hZ2.keep0 k4
    have hc3:∀ j,j<3→w3.cell? ⟨g,o+i * 3+j,none⟩=some (c.cell j):=fun j hj=>(k4.cell (cell_lt (hc2 j hj)) (by simp)).trans (hc2 j hj)
    have kk3:=kk2.trans k4
    clear D2 r72 hL2 hZ2 hc2 kk2 k4 hs4
    refine ⟨⟨r73,hc3⟩,?_⟩
    conv=>whnf
    refine Ca.of (hcall D3) ?_
    rintro u w4 ⟨k3,hr3⟩
    rcases hr3 with ⟨f3,⟨Y,n,e,f,rfl,hm1,hm2⟩,own3,D4,h3⟩ | ⟨y,hy,hyb,-⟩
    case inr=>cases hyb
    have r74:=r73.keep k3 (D3.far r73 (by decide))
    have r104:=r10.keep k3 (D3.far r10 (by decide))
    have hL4:=rd_far hL hL3 k3 nw
    have hZ4:=rd_far hZ hZ3 k3 nw
    have hc4:∀ j,j<3→w4.cell? ⟨g,o+i * 3+j,none⟩=some (c.cell j):=fun j hj=>(k3.cell (cell_lt (hc3 j hj)) hgo).trans (hc3 j hj)
    have kk4:Keep [] w w4:=kk3.then k3 (fun x hx=>.inr (nw x hx))
    have hs2:=kk3.size
    have nw3:∀ x,x∈own3→w.heap.size≤x:=fun x hx=>by
     rcases h3 x hx with h | h
     ·exact nw x h
     ·omega
    clear D3 r73 r10 hL3 hZ3 hc3 k3 h3 kk3 hs2
    refine ⟨⟨r74,hc4⟩,?_⟩
    conv=>whnf
    refine Ru.sta r104 size_ar (by omega) (fun j hj=>arF_one _ j) ?_
    intro w6 r106 k6
    have r106:Row w6 x10 28 24 (arF (c.arr a)):=r106.congr (fun j hj=>by unfold lay;rw [if_pos (by omega),Nat.sub_zero])
    have D6:=D4.away r104 (by decide) k6
    have r76:=r74.keep k6 (by simpa using h710)
    have hL6:=rd_far hL hL4 k6 (fun x hx=>by rw [List.mem_singleton.1 hx];exact h10w)
    have hZ6:=rd_far hZ hZ4 k6 (fun x hx=>by rw [List.mem_singleton.1 hx];exact h10w)
    have hc6:∀ j,j<3→w6.cell? ⟨g,o+i * 3+j,none⟩=some (c.cell j):=fun j hj=>(k6.cell (cell_lt (hc4 j hj)) (fun hm=>by have:g=x10:=List.mem_singleton.1 hm;omega)).trans (hc4 j hj)
    have kk6:=kk4.fresh h10w k6
    clear D4 r74 r104 hL4 hZ4 hc4 k6 kk4 hm2 h10w hx10
    refine ⟨⟨r76,hc6⟩,?_⟩
    conv=>whnf
   all_goals
    clear hc6 hm1 I q s nx cl0 cl8 hcall
    refine Ca.of (report_ok D6 (fun o ho=>CE.inv.l.ok.led.lt ho)) ?_
    rintro _ w8 ⟨rfl,k8⟩
    have D8:=D6.keep0 k8
    have r78:=r76.keep k8 (by simp)
    have r108:=r106.keep k8 (by simp)
    have hL8:=hL6.keep0 k8
    have hZ8:=hZ6.keep0 k8
    have kk8:=kk6.trans k8
    clear D6 r76 r106 hL6 hZ6 kk6 k8
    conv=>whnf
    refine Ru.alloca (alloc_vw w8) ?_
    intro x13 w9 hx13 hs9 r13 k9
    conv=>whnf
    refine Ru.sta r13 size_vw (by omega) (fun j _=>vwF_one K2 j) ?_
    intro wa r13a ka
    have r13a:Row wa x13 72 67 (vwF K2):=r13a.congr (fun j hj=>by unfold lay;rw [if_pos (by omega),Nat.sub_zero])
    have qa:Keep [] w8 wa:=k9.then ka (fun x hx=>.inr (by rw [List.mem_singleton.1 hx,hx13];exact Nat.le_refl _))
    have Da:=D8.keep0 qa
    have r7a:=r78.keep qa (by simp)
    have r10a:=r108.keep qa (by simp)
    have hLa:=hL8.keep0 qa
    have hZa:=hZ8.keep0 qa
    have kka:=kk8.trans qa
    have h713:x7≠x13:=by have:=r78.lt;omega
    have cn:wa.cell? ⟨x13,37,none⟩=some (.int .i64 K2.next):=r13a.cell 37 (by omega)
    clear D8 r78 r108 hL8 hZ8 kk8 k9 ka qa r13 hs9 hx13
    conv=>whnf
    repeat ((first
     | (refine Ld.at (by omega) cn ?_)
     | refine Br.f ?_|refine Pk.f ?_|refine Br.n ?_|refine Ru.neq_nil0 ?_|refine CW.s ?_);conv=>whnf)
    refine Ru.ldaC (q:=arF (c.arr a)) r10a Tryz.underlying28 rfl size_ar (by omega) (fun j hj=>by rw [Nat.zero_add]) ?_
    conv=>whnf
    refine Ru.sta r7a size_ar (by omega) (fun j hj=>arF_one _ j) ?_
    intro wb r7b kb
    have r7b:Row wb x7 28 24 (arF (playA (fun _=>0) (L.take (i+1)))):=r7b.congr (fun j hj=>by unfold lay;rw [if_pos (by omega),Nat.sub_zero,hst])
    have Db:=Da.away r7a (by decide) kb
    have hLb:=rd_far hL hLa kb (fun x hx=>by rw [List.mem_singleton.1 hx];exact hx7w)
    have hZb:=rd_far hZ hZa kb (fun x hx=>by rw [List.mem_singleton.1 hx];exact hx7w)
    have kkb:=kka.fresh hx7w kb
    have cnb:wb.cell? ⟨x13,37,none⟩=some (.int .i64 K2.next):=(kb.cell (cell_lt cn) (by simpa using h713.symm)).trans cn
    conv=>whnf
    repeat ((first
     | (refine Ld.at (by omega) cnb ?_)
     | refine Ar.la ?_);conv=>whnf)
    have I2:=CE.inv
    rw [show 2+2 * ((i:Nat):Int)+2=2+2 * ((i+1:Nat):Int) by omega] at I2
    exact ⟨(i+1,d,own3,K2,P2,k2',K2.next),⟨hlt,⟨Db,I2,CE.qu,by rw [hst];exact CE.sh,nx2,cl02,cl82,nw3,r7b,hLb,hZb,kkb,by rw [hst];exact arr_le ha c⟩,Int.le_refl _⟩,⟨rfl,rfl,rfl,rfl,rfl,rfl,vi (by first | omega | (simp only;omega)),trivial⟩,by simp only;omega⟩
 ·obtain rfl:i=L.length:=by omega
  rw [List.take_length] at *
  generalize playA (fun _=>0) L=a at *
  have hat:=fun o (ho:o<25)=>I.l.ok.led.lt ho
  conv=>whnf
  repeat ((first
   | refine Br.n ?_|refine CW.s ?_);conv=>whnf)
  refine Ca.of (report_ok D hat) ?_
  rintro _ w2 ⟨rfl,k2⟩
  have D2:=D.keep0 k2
  have r72:=r7.keep k2 (by simp)
  have kk2:=kk.trans k2
  clear D r7 kk k2 hLr hZr
  conv=>whnf
  refine Ru.alloca (alloc_vw w2) ?_
  intro x15 w3 hx15 hs3 r15 k3
  conv=>whnf
  refine Ru.sta r15 size_vw (by omega) (fun j _=>vwF_one K j) ?_
  intro w4 r154 k4
  have r154:Row w4 x15 72 67 (vwF K):=r154.congr (fun j hj=>by unfold lay;rw [if_pos (by omega),Nat.sub_zero])
  have q4:Keep [] w2 w4:=k3.then k4 (fun x hx=>.inr (by rw [List.mem_singleton.1 hx,hx15];exact Nat.le_refl _))
  have D4:=D2.keep0 q4
  have r74:=r72.keep q4 (by simp)
  have kk4:=kk2.trans q4
  obtain ⟨C1,H4,hA1,hl1⟩:=D4.chip
  clear D2 r72 kk2 k3 k4 q4 r15 hs3 hx15
  conv=>whnf
  repeat ((first
   | refine Br.f ?_|refine Ru.neq_nil0 ?_|refine CW.s ?_);conv=>whnf)
  refine Ca.of (truths_ok w4 ch C1 H4 hA1) ?_
  rintro _ w5 ⟨Y,cy,rfl,ly,-,k5⟩
  have D5:=D4.keep0 k5
  have r75:=r74.keep k5 (by simp)
  have r155:=r154.keep k5 (by simp)
  have H5:=H4.keep k5 (by simp)
  have kk5:=kk4.trans k5
  have hn96:=fdsTo_len P 96
  have hmem:=fun i h=>fds_at P (n:=96) (i:=i) h
  have hinc:=fds_inc P 96
  clear D4 r74 r154 H4 kk4 k5
  generalize fdsTo P 96=F at *
  obtain ⟨N,X,c9,n9,eown,rD,hOn,eC,hqu⟩:=D5
  obtain ⟨i0,hi0,hz0,hz1,hz2⟩:=info_parts i64_info
  have hwb:w.heap.size≤w5.heap.size:=kk5.size
  have J5:SqJ w w5.heap.size N K P n9 X c9 d ch x7 x15 C1 a Y cy F none 0 [] w5:=⟨hOn,rD,H5,r75,r155,ly,Ly.nil _ _ _ _,(fun _ h=>nomatch h),kk5⟩
  clear rD H5 r75 r155 ly kk5 hi hge
  conv=>whnf
  repeat ((first
   | refine CW.s ?_);conv=>whnf)
  refine CW.loop (ι:=Nat × Option Addr × Nat × List Int) (fun i w'=>i.1≤F.length∧SqJ w w5.heap.size N K P n9 X c9 d ch x7 x15 C1 a Y cy F i.2.1 i.2.2.1 i.2.2.2 w'∧(i.2.2.2.length≤i.1∧w5.heap.size≤w'.heap.size)∧∀ x,x∈i.2.2.2→∃ j p t D,j<i.1∧j<F.length∧F.getD j Fd.zero=fdOf p t∧p<96∧P.pg p = .full t D∧K.at_ t.of.toNat=p+1∧x=t.seq)
   (fun i=>[(5,.pointer (some ⟨ch,0,none⟩)),(6,.pointer (some ⟨d,0,none⟩)),(7,.pointer (some ⟨x7,0,none⟩)),(15,.pointer (some ⟨x15,0,none⟩)),(17,.slice Y F.length cy),(18,.slice i.2.1 i.2.2.2.length i.2.2.1),(19,.int .i64 i.1)]) (fun i=>F.length - i.1) (0,none,0,[]) tt_ok
   ⟨by omega,J5,⟨by simp,Nat.le_refl _⟩,(fun _ h=>nomatch h)⟩ ⟨rfl,rfl,rfl,rfl,rfl,rfl,rfl,trivial⟩ ?_
  clear J5
  rintro ⟨i,B,e,hs⟩ wi ⟨hi,J,⟨hhl,hsi⟩,hhs⟩
  simp only at hi J hhl hhs ⊢
  rcases Nat.lt_or_ge i F.length with hilt | hige
  ·obtain ⟨p,t,Dp,hp,hpg,hfi⟩:=hmem i hilt
   obtain ⟨okt,-,-,hDb,-⟩:=I.l.ok.gd.val p t Dp hp hpg
   have okt':=okt
   obtain ⟨_,_,ho0,ho1,_⟩:=okt'
   obtain ⟨o,ho⟩:∃ o:Nat,t.of=o:=⟨t.of.toNat,by omega⟩
   have ho25:o<25:=by omega
   have hoN:t.of.toNat=o:=by omega
   have hsq:=I.l.next.1 p t Dp hp hpg
   obtain ⟨b,off,rfl,hci0⟩:=fd_cells J.ly.rd i hilt
   rw [hfi] at hci0
   have hci:∀ {w':World},Keep [] wi w'→∀ j,j<6→w'.cell? ⟨b,off+i * 6+j,none⟩=some ((fdOf p t).cell j):=fun k j hj=>(k.cell (cell_lt (hci0 j hj)) (by simp)).trans (hci0 j hj)
   have hc2:∀ (w':World),(∀ j,j<6→w'.cell? ⟨b,off+i * 6+j,none⟩=some ((fdOf p t).cell j))→w'.cell? ⟨b,off+i * 6+2,none⟩=some (.int .i64 (o:Nat))∧w'.cell? ⟨b,off+i * 6+3,none⟩=some (.int .i64 t.seq)∧w'.cell? ⟨b,off+i * 6+0,none⟩=some (.int .i64 (p:Nat)):=fun w' h=>⟨by rw [h 2 (by omega), ← ho];rfl,h 3 (by omega),h 0 (by omega)⟩
   have hlv:=vwF_live K ho25
   conv=>whnf
   repeat ((first
    | refine Br.y ?_|refine CW.s ?_);conv=>whnf)
   refine CW.held (fun w'=>(∀ j,j<6→w'.cell? ⟨b,off+i * 6+j,none⟩=some ((fdOf p t).cell j))∧w'.cell? ⟨x15,12+o,none⟩=some (.int .i64 (plcL K.at_ o))) [] (.take 0 (.take 1 (.take 2 (.take 3 (.take 4 (.take 5 (.take 6 (.take 7 (.take 8 (.take 9 (.take 10 (.take 11 (.take 12 (.take 13 (.take 14 (.done)))))))))))))))) tt_ok (by kernel_rfl) (by kernel_rfl) (by kernel_rfl) ?_ ?_
   ·exact ⟨hci0,by rw [← hlv];exact J.rv.cell (12+o) (by omega)⟩
   have q1:=(Keep.refl [] wi).drewN 1
   have J1:=J.keep0 q1
   have hci1:=hci q1
   have hs6:w5.heap.size≤(wi.drewN 1).heap.size:=hsi
   clear J hci hci0 q1 hsi
   generalize wi.drewN 1=w6 at *
   by_cases hlive:K.at_ o=p+1
   case neg =>
    have hpl:¬ plcL K.at_ o=(p:Int):=fun x=>by
     unfold plcL at x
     split at x<;>omega
    conv=>whnf
    repeat ((first
     | (refine Ix.of i (by omega) (by omega) ?_)
     | (refine Ix.of o (by omega) (by omega) ?_)
     | (refine LdQ.at (by omega) (fun w' h=>(hc2 w' h.1).1) ?_)
     | (refine LdQ.at (by omega) (fun w' h=>(hc2 w' h.1).2.2) ?_)
     | (refine LdQ.at (by omega) (fun w' h=>h.2) ?_)
     | refine Ar.la ?_|refine Br.nn ?_);conv=>whnf)
    exact ⟨(i+1,B,e,hs),⟨hilt,J1,⟨by simp only;omega,hs6⟩,fun x hx=>by
     obtain ⟨j,p',t',D',h1,h2⟩:=hhs x hx
     exact ⟨j,p',t',D',by simp only;omega,h2⟩⟩,⟨rfl,rfl,rfl,rfl,rfl,rfl,vi (by first | omega | (simp only;omega)),trivial⟩,by simp only;omega⟩
   case pos =>
    have hpl:plcL K.at_ o=(p:Int):=by
     unfold plcL
     rw [if_neg (by omega),hlive,Nat.add_sub_cancel]
    have hno:∀ x,x∈hs→x≠t.seq:=fun x hx e9=>by
     obtain ⟨j,p',t',D',h1,h2,h3,h4,h5,h6,h7⟩:=hhs x hx
     have hne:p'≠p:=fun e8=>by
      have:=hinc j i h1 hilt
      rw [h3,hfi,e8] at this
      exact absurd this (Int.lt_irrefl _)
     obtain ⟨g1,-,-⟩:=I.l.ok.gd.seq p' p t' t D' Dp h4 hp hne h5 hpg (h7.symm.trans e9)
     rw [g1,hoN,hlive] at h6
     omega
    conv=>whnf
    repeat ((first
     | (refine Ix.of i (by omega) (by omega) ?_)
     | (refine Ix.of o (by omega) (by omega) ?_)
     | (refine LdQ.at (by omega) (fun w' h=>(hc2 w' h.1).1) ?_)
     | (refine LdQ.at (by omega) (fun w' h=>(hc2 w' h.1).2.2) ?_)
     | (refine LdQ.at (by omega) (fun w' h=>h.2) ?_)
     | refine Br.ny ?_|refine CW.s ?_);conv=>whnf)
    have hhd:=J1.hd
    refine CW.loop (ι:=Nat) (fun k w'=>k≤hs.length∧Keep [] w6 w'∧w5.heap.size≤w'.heap.size) (fun k=>[(5,.pointer (some ⟨ch,0,none⟩)),(6,.pointer (some ⟨d,0,none⟩)),(7,.pointer (some ⟨x7,0,none⟩)),(15,.pointer (some ⟨x15,0,none⟩)),(17,.slice (some ⟨b,off,none⟩) F.length cy),(18,.slice B hs.length e),(19,.int .i64 i),(20,.int .i64 k)]) (fun k=>hs.length - k) 0 tt_ok
     ⟨by omega,Keep.refl _ _,hs6⟩ ⟨rfl,rfl,rfl,rfl,rfl,rfl,rfl,rfl,trivial⟩ ?_
    rintro k w7 ⟨hk,k7,k5'⟩
    rcases Nat.lt_or_ge k hs.length with hklt | hkge
    ·have J7:=J1.keep0 k7
     obtain ⟨gb,hB,hcb,-⟩:=J7.hd.at1 (j:=k) hklt
     subst hB
     have hci7:∀ j,j<6→w7.cell? ⟨b,off+i * 6+j,none⟩=some ((fdOf p t).cell j):=fun j hj=>(k7.cell (cell_lt (hci1 j hj)) (by simp)).trans (hci1 j hj)
     have hnk:¬ hs.getD k 0=t.seq:=hno _ (lst_mem hklt)
     conv=>whnf
     repeat ((first
      | refine Br.y ?_|refine CW.s ?_);conv=>whnf)
     refine CW.held (fun w'=>(∀ j,j<6→w'.cell? ⟨b,off+i * 6+j,none⟩=some ((fdOf p t).cell j))∧w'.cell? ⟨gb,k,none⟩=some (.int .i64 (hs.getD k 0))) [] (.take 0 (.take 1 (.take 2 (.take 3 (.take 4 (.take 5 (.take 6 (.take 7 (.take 8 (.take 9 (.take 10 (.done)))))))))))) tt_ok (by kernel_rfl) (by kernel_rfl) (by kernel_rfl) ?_ ?_
     ·exact ⟨hci7,hcb⟩
     have k8:=k7.drewN 1
     have k5'':w5.heap.size≤(w7.drewN 1).heap.size:=k5'
     generalize w7.drewN 1=w8 at *
     conv=>whnf
     repeat ((first
      | (refine Ix.of k (by omega) (by omega) ?_)
      | (refine Ix.of i (by omega) (by omega) ?_)
      | (refine LdQ.at (by omega) (fun w' h=>(hc2 w' h.1).2.1) ?_)
      | (refine LdQ.at (by omega) (fun w' h=>h.2) ?_)
      | refine Ar.la ?_|refine Br.n ?_);conv=>whnf)
     exact ⟨k+1,⟨hklt,k8,k5''⟩,⟨rfl,rfl,rfl,rfl,rfl,rfl,rfl,vi (by first | omega | (simp only;omega)),trivial⟩,by simp only;omega⟩
    ·obtain rfl:k=hs.length:=by omega
     have J7:=J1.keep0 k7
     have hci7:∀ j,j<6→w7.cell? ⟨b,off+i * 6+j,none⟩=some ((fdOf p t).cell j):=fun j hj=>(k7.cell (cell_lt (hci1 j hj)) (by simp)).trans (hci1 j hj)
     have c37:=(hc2 w7 hci7).2.1
     clear J1 hci1 k7 hhd hno
     conv=>whnf
     repeat ((first
      | (refine Ix.of i (by omega) (by omega) ?_)
      | (refine Ld.at (by omega) c37 ?_)
      | refine Br.n ?_|refine CW.s ?_);conv=>whnf)
     refine Ru.of (build_i64 t.seq w7) ?_
     have r3:=Row.obj w7 2 1 (fun _=>.int .i64 t.seq)
     have k3:Keep [] w7 (w7.alloc (rowObj 1 (fun _=>.int .i64 t.seq) 2)):=(Keep.refl _ _).alloc _
     have J8:=J7.keep0 k3
     have hs8:w5.heap.size≤(w7.alloc (rowObj 1 (fun _=>.int .i64 t.seq) 2)).heap.size:=by have:=k5';have:=k3.size;omega
     have hci8:∀ j,j<6→(w7.alloc (rowObj 1 (fun _=>.int .i64 t.seq) 2)).cell? ⟨b,off+i * 6+j,none⟩=some ((fdOf p t).cell j):=fun j hj=>(k3.cell (cell_lt (hci7 j hj)) (by simp)).trans (hci7 j hj)
     clear J7 hci7 c37 k3
     generalize w7.alloc _=w8 at *
     conv=>whnf
     refine Bu.append Tryz.underlying78 hi0 hz0 hz1 hz2 rfl (by omega) J8.hd _ (Rd.of_row r3 (n:=1 * 1) (by omega)) (by omega) (by simp) (fun _ _=>rfl) (by simp only [maxLen];omega) (by omega) ?_
     intro B' e' w9 hy k9 hat' hpre
     have hbB:b∉blk B:=fun hm=>J8.hd.type_ne J8.ly (by decide) hm (List.mem_singleton.2 rfl)
     have hci9:∀ j,j<6→w9.cell? ⟨b,off+i * 6+j,none⟩=some ((fdOf p t).cell j):=fun j hj=>(k9.cell (cell_lt (hci8 j hj)) hbB).trans (hci8 j hj)
     have hy':Ly w9 2 1 B' (hs ++ [t.seq]).length e' (fun j=>.int .i64 ((hs ++ [t.seq]).getD j 0)):=by
      rw [List.length_append,List.length_singleton]
      refine hy.congr (fun j hj=>?_)
      by_cases hj2:j<hs.length
      ·rw [if_pos (by omega),List.getD_eq_getElem?_getD,List.getD_eq_getElem?_getD,List.getElem?_append_left hj2]
      ·have:j=hs.length:=by omega
       rw [if_neg (by omega),this,List.getD_eq_getElem?_getD,List.getElem?_append_right (Nat.le_refl _),Nat.sub_self]
       rfl
     have J9:SqJ w w5.heap.size N K P n9 X c9 d ch x7 x15 C1 a (some ⟨b,off,none⟩) cy F B' e' (hs ++ [t.seq]) w9 :=
      ⟨On.keepS hOn J8.on k9 J8.nb,Row.keep J8.rd k9 (J8.hd.row_ne J8.rd (by decide)),J8.cp.keep k9 (J8.hd.row_ne J8.cp (by decide)),J8.r7.keep k9 (J8.hd.row_ne J8.r7 (by decide)),J8.rv.keep k9 (J8.hd.row_ne J8.rv (by decide)),J8.ly.keep k9 (fun x hx hm=>J8.hd.type_ne J8.ly (by decide) hm hx),hy',fun x hx=>by
       rcases hat' with e1 | e1
       ·rw [e1] at hx
        exact J8.nb x hx
       ·rw [e1] at hx
        rw [List.mem_singleton.1 hx]
        exact hs8,J8.kk.then k9 (fun x hx=>.inr (Nat.le_trans hwb (J8.nb x hx)))⟩
     have hhs':∀ x,x∈hs ++ [t.seq]→∃ j p t D,j<i+1∧j<F.length∧F.getD j Fd.zero=fdOf p t∧p<96∧P.pg p = .full t D∧K.at_ t.of.toNat=p+1∧x=t.seq:=fun x hx=>by
      rcases List.mem_append.1 hx with hx | hx
      ·obtain ⟨j,p',t',D',h1,h2⟩:=hhs x hx
       exact ⟨j,p',t',D',by omega,h2⟩
      ·exact ⟨i,p,t,Dp,by omega,hilt,hfi,hp,hpg,by rw [hoN];exact hlive,List.mem_singleton.1 hx⟩
     have hl1:(hs ++ [t.seq]).length=hs.length+1:=by simp
     have hs9:w5.heap.size≤w9.heap.size:=Nat.le_trans hs8 k9.size
     clear J8 hci8 hy k9 hat' hpre hy' hbB
     conv=>whnf
     repeat ((first
      | refine CW.s ?_);conv=>whnf)
     refine CW.held (fun w'=>(∀ j,j<6→w'.cell? ⟨b,off+i * 6+j,none⟩=some ((fdOf p t).cell j))∧w'.cell? ⟨x15,37,none⟩=some (.int .i64 K.next)) [] (.take 0 (.take 1 (.take 2 (.take 3 (.take 4 (.take 5 (.take 6 (.take 7 (.take 8 (.done)))))))))) tt_ok (by kernel_rfl) (by kernel_rfl) (by kernel_rfl) ?_ ?_
     ·exact ⟨hci9,J9.rv.cell 37 (by omega)⟩
     have q9:=(Keep.refl [] w9).drewN 1
     have J10:=J9.keep0 q9
     have hci10:∀ j,j<6→(w9.drewN 1).cell? ⟨b,off+i * 6+j,none⟩=some ((fdOf p t).cell j):=hci9
     have hs10:w5.heap.size≤(w9.drewN 1).heap.size:=hs9
     clear J9 hci9 q9 hs9
     generalize w9.drewN 1=wa at *
     conv=>whnf
     repeat ((first
      | (refine Ix.of i (by omega) (by omega) ?_)
      | (refine LdQ.at (by omega) (fun w' h=>(hc2 w' h.1).2.1) ?_)
      | (refine LdQ.at (by omega) (fun w' h=>h.2) ?_)
      | refine Br.n ?_);conv=>whnf)
     refine CW.held (fun w'=>(∀ j,j<6→w'.cell? ⟨b,off+i * 6+j,none⟩=some ((fdOf p t).cell j))∧Row w' x7 28 24 (arF a)) [] (.take 0 (.take 1 (.take 2 (.take 3 (.take 4 (.take 5 (.take 6 (.take 7 (.take 8 (.take 9 (.take 10 (.take 11 (.take 12 (.take 13 (.take 16 (.take 17 (.take 18 (.take 19 (.take 20 (.take 21 (.take 22 (.take 23 (.take 24 (.one 14 (.take 15 (.one 25 (.one 26 (.take 27 (.take 28 (.done)))))))))))))))))))))))))))))) tt_ok (by kernel_rfl) (by kernel_rfl) (by kernel_rfl) ?_ ?_
     ·exact ⟨hci10,J10.r7.drewN 1⟩
     have q9:=(Keep.refl [] wa).drewN 1
     have J11:=J10.keep0 q9
     have hci11:∀ j,j<6→(wa.drewN 1).cell? ⟨b,off+i * 6+j,none⟩=some ((fdOf p t).cell j):=hci10
     have hs11:w5.heap.size≤(wa.drewN 1).heap.size:=hs10
     clear J10 hci10 q9 hs10
     generalize wa.drewN 1=wb at *
     by_cases h24:o<24
     ·conv=>whnf
      repeat ((first
       | (refine Ix.of i (by omega) (by omega) ?_)
       | (refine Ix.of o (by omega) (by omega) ?_)
       | (refine LdQ.at (by omega) (fun w' h=>(hc2 w' h.1).1) ?_)
       | (refine LdQ.at (by omega) (fun w' h=>(hc2 w' h.1).2.2) ?_)
       | (refine LdQ.at (by omega) (fun w' h=>Row.cell h.2 o (by omega)) ?_)
       | refine Br.t ?_|refine Br.y ?_);conv=>whnf)
      refine Ca.of (tdata_ok wb ch p C1 J11.cp hA1 hp hpg) ?_
      rintro _ wc ⟨Yd,dd,rfl,Od⟩
      obtain ⟨gd,rfl,-,-⟩:=Od.ly.at1 (j:=0) (by omega)
      have hled:=Od.ly.1
      have J12:=J11.keep0 Od.keep
      have hci12:∀ j,j<6→wc.cell? ⟨b,off+i * 6+j,none⟩=some ((fdOf p t).cell j):=fun j hj=>(Od.keep.cell (cell_lt (hci11 j hj)) (by simp)).trans (hci11 j hj)
      conv=>whnf
      refine ⟨⟨hci12,J12.r7⟩,?_⟩
      conv=>whnf
      repeat ((first
       | (refine RuQ.sl_h Tryz.underlying37 byte_szI (h:=160) (by omega) ?_)
       | refine Br.t ?_);conv=>whnf)
      have hao:=ha o
      refine Ca.of (tbytes_ok (a o) (by omega) wc) ?_
      rintro _ wd ⟨gb2,rfl,hgb2,rb2,kb2⟩
      have J13:=J12.keep0 kb2
      have hci13:∀ j,j<6→wd.cell? ⟨b,off+i * 6+j,none⟩=some ((fdOf p t).cell j):=fun j hj=>(kb2.cell (cell_lt (hci12 j hj)) (by simp)).trans (hci12 j hj)
      have hRd:Rd wd (some ⟨gd,0,none⟩) 160 (fun j=>.int .u8 ((Dp j:Nat):Int)):=fun _=>⟨gd,0,rfl,fun j hj=>by
       obtain ⟨g',e1',e2',-⟩:=(Od.keep0 kb2).ly.at1 (j:=j) (by omega)
       cases e1'
       rw [Nat.zero_add,e2']⟩
      have hsame:∀ j,j<160→((Dp j:Nat):Int)=((byF (a o) j:Nat):Int):=fun j hj=>by
       have:=s o j h24 hj
       unfold arr dataAt at this
       rw [if_neg (by omega),hlive,Nat.add_sub_cancel,hpg] at this
       have h9:Dp j=byF (a o) j:=this
       rw [h9]
      have hs13:w5.heap.size≤wd.heap.size:=Nat.le_trans hs11 (Od.keep.trans kb2).size
      conv=>whnf
      refine ⟨⟨hci13,J13.r7⟩,?_⟩
      conv=>whnf
      repeat ((first
       | refine Br.t ?_);conv=>whnf)
      refine Ca.of (same17_ok _ _ 160 160 _ _ (fun j=>((Dp j:Nat):Int)) (fun j=>((byF (a o) j:Nat):Int)) _ hRd (Rd.of_row rb2 (n:=160) (by omega)) (fun j=>by have:=hDb j;omega) (fun j=>by have:=byF_lt (a o) j;omega)) ?_
      rintro _ _ ⟨rfl,rfl⟩
      rw [sameB_yes rfl hsame]
      conv=>whnf
      refine ⟨⟨hci13,J13.r7⟩,?_⟩
      conv=>whnf
      repeat ((first
       | refine Br.t ?_|refine Br.f ?_|refine Pk.t ?_|refine Ar.la ?_);conv=>whnf)
      exact ⟨(i+1,B',e',hs ++ [t.seq]),⟨hilt,J13,⟨by simp only;omega,hs13⟩,hhs'⟩,⟨rfl,rfl,rfl,rfl,rfl,by rw [hl1];rfl,vi (by first | omega | (simp only;omega)),trivial⟩,by simp only;omega⟩
     ·conv=>whnf
      repeat ((first
       | (refine Ix.of i (by omega) (by omega) ?_)
       | (refine LdQ.at (by omega) (fun w' h=>(hc2 w' h.1).1) ?_)
       | refine Br.f ?_|refine Br.n ?_);conv=>whnf)
      refine ⟨⟨hci11,J11.r7⟩,?_⟩
      conv=>whnf
      repeat ((first
       | refine Br.f ?_);conv=>whnf)
      refine ⟨⟨hci11,J11.r7⟩,?_⟩
      conv=>whnf
      repeat ((first
       | refine Br.f ?_);conv=>whnf)
      refine ⟨⟨hci11,J11.r7⟩,?_⟩
      conv=>whnf
      repeat ((first
       | refine Br.f ?_|refine Pk.f ?_|refine Ar.la ?_);conv=>whnf)
      exact ⟨(i+1,B',e',hs ++ [t.seq]),⟨hilt,J11,⟨by simp only;omega,hs11⟩,hhs'⟩,⟨rfl,rfl,rfl,rfl,rfl,by rw [hl1];rfl,vi (by first | omega | (simp only;omega)),trivial⟩,by simp only;omega⟩
  ·obtain rfl:i=F.length:=by omega
   have D9:DvOn wi own d ch K P none:=⟨N,X,c9,n9,eown,J.rd,J.on,eC,hqu⟩
   conv=>whnf
   repeat ((first
    | refine Br.n ?_|refine CW.s ?_);conv=>whnf)
   refine Ru.ldaC (q:=arF a) J.r7 Tryz.underlying28 rfl size_ar (by omega) (fun j hj=>by rw [Nat.zero_add]) ?_
   conv=>whnf
   refine Ca.of (showing_ok D9 I q s (by omega) ha) ?_
   rintro _ wl ⟨rfl,K9,P9,k9,own8,PI⟩
   conv=>whnf
   exact ⟨rfl,rfl,J.kk.then PI.kk (fun y hy=>.inr (nw y hy))⟩
end Go.Proofs.YtaeikigfgfcadaaGreat
namespace Go.Proofs.YtaeikigfgfcadaaGreat.topSeqs
open Go.RowKit Go.Joins Go.ChangeAt
theorem and_ {a b:Bool} (h:a=true) (k:b=true):(a && b)=true:=by rw [h,k];rfl
theorem j0:(Rows.topSeqsUptoRow.wf (OpenSpec.ofChange (Rows.OpenSpec.upto Rows.topSeqsSpec).bare):Bool)=true:=by kernel_rfl
theorem j1:(laidOutB Tryz.pinned.checked.prog:Bool)=true:=by kernel_rfl
theorem j2:(mapsRowed Tryz.pinned.checked.prog:Bool)=true:=by kernel_rfl
theorem j3:((Tryz.f11).params.all (Tryz.pinned.checked.prog.readableRec ·):Bool)=true:=by kernel_rfl
theorem j4:(namedTie Tryz.pinned.checked.prog Rows.topSeqsUptoRow.named (Rows.OpenSpec.upto Rows.topSeqsSpec).bare.vars:Bool)=true:=by kernel_rfl
theorem j5:((Rows.topSeqsUptoRow.stops == []):Bool)=true:=by kernel_rfl
theorem j6:((Tryz.pinned.checked.prog.stops == []):Bool)=true:=by kernel_rfl
theorem j7:((Rows.topSeqsUptoRow.knobs == []):Bool)=true:=by kernel_rfl
theorem j8:((Tryz.pinned.checked.prog.stopKnobs == []):Bool)=true:=by kernel_rfl
theorem j9:((Rows.topSeqsUptoRow.inPlace == Tryz.pinned.checked.prog.inPlace 11):Bool)=true:=by kernel_rfl
theorem j10:((Rows.topSeqsUptoRow.unfollowed == Tryz.pinned.checked.prog.unfollowed 11):Bool)=true:=by kernel_rfl
theorem j11:((Rows.topSeqsUptoRow.recurses == Tryz.pinned.checked.prog.recurses 11):Bool)=true:=by kernel_rfl
theorem j12:((Rows.topSeqsUptoRow.named == Tryz.pinned.checked.prog.varsNamed 11):Bool)=true:=by kernel_rfl
theorem j13:((Rows.topSeqsUptoRow.maps == ((Tryz.f11).params.toList ++ (Rows.OpenSpec.upto Rows.topSeqsSpec).bare.plain.varTypes Tryz.pinned.checked.prog).any (Tryz.pinned.checked.prog.mapsRec ·)):Bool)=true:=by kernel_rfl
theorem j14:((Rows.topSeqsUptoRow.ifaces == ((Tryz.f11).params.toList ++ (Rows.OpenSpec.upto Rows.topSeqsSpec).bare.plain.varTypes Tryz.pinned.checked.prog).any (Tryz.pinned.checked.prog.ifacesRec ·)):Bool)=true:=by kernel_rfl
theorem j15:((Rows.topSeqsUptoRow.mapsOut == Tryz.pinned.checked.prog.mapsAmong (Tryz.f11).resultTypes.toList):Bool)=true:=by kernel_rfl
theorem j16:((Rows.topSeqsUptoRow.loops == ((Tryz.f11).params.toList ++ (Rows.OpenSpec.upto Rows.topSeqsSpec).bare.plain.varTypes Tryz.pinned.checked.prog).any (Tryz.pinned.checked.prog.loopsFrom ·)):Bool)=true:=by kernel_rfl
theorem j17:((Rows.topSeqsUptoRow.wideKeys == ((Tryz.f11).params.toList ++ (Rows.OpenSpec.upto Rows.topSeqsSpec).bare.plain.varTypes Tryz.pinned.checked.prog ++ (Tryz.f11).resultTypes.toList).any (Tryz.pinned.checked.prog.wideKeysFrom ·)):Bool)=true:=by kernel_rfl
theorem j18:((Rows.OpenSpec.upto Rows.topSeqsSpec).bare.vars.all (Tryz.pinned.checked.prog.varReadable ·):Bool)=true:=by kernel_rfl
theorem j19:((Tryz.f11).resultTypes.all (fun t=>Tryz.pinned.checked.prog.readableRec t && decide (t<Tryz.pinned.checked.prog.types.size)):Bool)=true:=by kernel_rfl
theorem j20:((Rows.topSeqsUptoRow.ifacesOut == (Tryz.f11).resultTypes.toList.any (Tryz.pinned.checked.prog.ifacesRec ·)):Bool)=true:=by kernel_rfl
theorem j21:((Rows.topSeqsUptoRow.loopsOut == (Tryz.f11).resultTypes.toList.any (Tryz.pinned.checked.prog.loopsFrom ·)):Bool)=true:=by kernel_rfl
theorem j22:((Rows.topSeqsUptoRow.plainKeys == Tryz.pinned.checked.prog.plainKeys):Bool)=true:=by kernel_rfl
theorem j23:(Rows.topSeqsUptoRow.shortTexts.isNone:Bool)=true:=by kernel_rfl
theorem j24:(Tryz.pinned.checked.prog.stopsHeard:Bool)=true:=by kernel_rfl
theorem j25:(Tryz.pinned.checked.prog.mayEnter:Bool)=true:=by kernel_rfl
theorem j26:((Rows.topSeqsUptoRow.lifted == Tryz.pinned.checked.prog.liftsFinal):Bool)=true:=by kernel_rfl
theorem j27:((Tryz.pinned.checked.prog.make == some Rows.topSeqsUptoRow.make):Bool)=true:=by kernel_rfl
theorem j28:((Rows.topSeqsUptoRow.kinds == (if Rows.topSeqsUptoRow.domain.isEmpty then [] else (Tryz.f11).params.toList.map fun t=>match Tryz.pinned.checked.prog.underlying t with | some (.int k)=>some k | _=>none)):Bool)=true:=by kernel_rfl
theorem j29:((Rows.topSeqsUptoRow.pinned == Rows.topSeqsUptoRow.pinnedBy):Bool)=true:=by kernel_rfl
theorem j30:((Rows.topSeqsUptoRow.veiled == ((Tryz.f11).params.toList ++ (Rows.OpenSpec.upto Rows.topSeqsSpec).bare.plain.varTypes Tryz.pinned.checked.prog ++ (Tryz.f11).resultTypes.toList).any (Tryz.pinned.checked.prog.veiledRec ·)):Bool)=true:=by kernel_rfl
theorem j31:(Rows.topSeqsUptoRow.veiledFits Tryz.pinned.checked.prog (Tryz.f11).params.toList ((Tryz.f11).params.toList ++ (Rows.OpenSpec.upto Rows.topSeqsSpec).bare.plain.varTypes Tryz.pinned.checked.prog ++ (Tryz.f11).resultTypes.toList):Bool)=true:=by kernel_rfl
set_option maxRecDepth 20000 in
theorem closed:joinedFacts Tryz.pinned.checked.prog 11 Tryz.f11 (Rows.OpenSpec.upto Rows.topSeqsSpec).bare Rows.topSeqsUptoRow=true:=(and_ (and_ (and_ (and_ (and_ (and_ (and_ (and_ (and_ (and_ (and_ (and_ (and_ (and_ (and_ (and_ (and_ (and_ (and_ (and_ (and_ (and_ (and_ (and_ (and_ (and_ (and_ (and_ (and_ (and_ (and_ j0 j1) j2) j3) j4) j5) j6) j7) j8) j9) j10) j11) j12) j13) j14) j15) j16) j17) j18) j19) j20) j21) j22) j23) j24) j25) j26) j27) j28) j29) j30) j31)
theorem wrap:(Tryz.f11).isWrapper Tryz.pinned.checked.prog Rows.topSeqsUptoRow.wrapper Rows.topSeqsUptoRow.mainSum:=by unfold Func.isWrapper;first | (rw [if_pos (by decide +kernel)];kernel_rfl) | (rw [if_neg (by decide +kernel)];exact ⟨rfl,rfl⟩)
end Go.Proofs.YtaeikigfgfcadaaGreat.topSeqs

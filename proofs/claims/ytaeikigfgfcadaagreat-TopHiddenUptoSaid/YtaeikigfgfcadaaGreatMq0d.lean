/- Texts behind one another: Pool, Map, Hl, Map2, Point, PointW, PointR, Front, Choose, Queue, ErrIs, ClL, Core, Core1, Core2, Core3, Core4, Calm, Copies, Ends. -/
import Derived.Tactics
import Derived.Tactics2
import Derived.LaidEql
import Derived.Stop.Asserts
import Derived.RowKitTokens
import Derived.Test.YtaeikigfgfcadaaGreatMq0a
import Derived.Test.YtaeikigfgfcadaaGreatMq0b
import Derived.Test.YtaeikigfgfcadaaGreatMq0c
namespace Go.Proofs.YtaeikigfgfcadaaGreat
set_option maxHeartbeats 4000000
set_option maxRecDepth 20000
set_option linter.unusedVariables false
set_option linter.unusedSimpArgs false
set_option linter.unnecessarySimpa false
section
open Go.RowKit
theorem gis_ok(w:World)(p:Nat)(hp:p<96):Spec Tryz.prog 180 #[.int .i64 p] w fun v w'=>v=.bool true/\w=w':=by
 refine spec_of_wpE (T:=tt) tt_ok Tryz.func180 rfl (by decide +kernel) Tryz.ntmps180 (by simp) ?_;conv=>whnf
 repeat ((first|refine Br.t ?_|refine Pk.t ?_);conv=>whnf)
 exact⟨rfl,vb (by simp;omega),rfl⟩
theorem place_ok'(w:World)(b i:Nat)(hb:b<12)(hi:i<=8):Spec Tryz.prog 157 #[.int .i64 b,.int .i64 i] w fun v w'=>v=(if i<8 then .tuple #[.int .i64 ((b*8+i:Nat):Int),errOf 0] else .tuple #[.int .i64 0,errOf 1])/\w=w':=by
 refine spec_of_wpE (T:=tt) tt_ok Tryz.func157 rfl (by decide +kernel) Tryz.ntmps157 (by simp) ?_;by_cases h:i<8
 ·rw[if_pos h];conv=>whnf
  repeat ((first|refine Br.f ?_|refine Pk.f ?_|refine Ar.la ?_|refine Br.n ?_|refine CW.s ?_);conv=>whnf)
  exact⟨rfl,by rw[show((b*8+i:Nat):Int)=(b:Int)*8+i by omega];rfl,rfl⟩
 ·rw[if_neg h];conv=>whnf
  repeat ((first|refine Br.f ?_|refine Pk.f ?_|refine Br.y ?_|refine Br.n ?_|refine CW.s ?_);conv=>whnf)
  exact⟨rfl,rfl,rfl⟩
theorem parts_ok(w:World)(p:Nat)(hp:p<96):Spec Tryz.prog 170 #[.int .i64 p] w fun v w'=>v=.tuple #[.int .i64 ((p/8:Nat):Int),.int .i64 ((p%8:Nat):Int),errOf 0]/\w=w':=by
 refine spec_of_wpE (T:=tt) tt_ok Tryz.func170 rfl (by decide +kernel) Tryz.ntmps170 (by simp) ?_;conv=>whnf
 repeat ((first|refine CW.s ?_);conv=>whnf)
 refine Ca.of (gis_ok w p hp) ?_;rintro _ _ ⟨rfl,rfl⟩;conv=>whnf
 repeat ((first|refine Br.f ?_|refine Dv.q ?_|refine Dv.r ?_);conv=>whnf)
 exact⟨rfl,by rw[show((p/8:Nat):Int)=(p:Int)/8 by omega,show((p%8:Nat):Int)=(p:Int)%8 by omega];rfl,rfl⟩
def holdsB(p o:Nat):Bool:=decide (o=24)||decide (p%8<6)
theorem holds_ok(w:World)(p o:Nat)(hp:p<96)(ho:o<=24):Spec Tryz.prog 177 #[.int .i64 p,.int .i64 o] w fun v w'=>v=.tuple #[.bool (holdsB p o),errOf 0]/\w=w':=by
 refine spec_of_wpE (T:=tt) tt_ok Tryz.func177 rfl (by decide +kernel) Tryz.ntmps177 (by simp) ?_;conv=>whnf
 repeat ((first|refine CW.s ?_);conv=>whnf)
 refine Ca.of (gis_ok w p hp) ?_;rintro _ _ ⟨rfl,rfl⟩;unfold holdsB;by_cases h:o=24
 ·subst h;conv=>whnf
  repeat ((first|refine Br.t ?_|refine Br.f ?_|refine Pk.f ?_|refine Pk.t ?_);conv=>whnf)
  exact⟨rfl,rfl,rfl⟩
 ·conv=>whnf
  repeat ((first|refine Br.f ?_|refine Pk.f ?_|refine Dv.r ?_|refine Br.n ?_);conv=>whnf)
  refine⟨rfl,?_,rfl⟩;have e:decide ((p:Int)%8<6)=decide (p%8<6):=decide_eq_decide.2 (by omega);simp[oneOf,h,e,errOf_zero]
theorem on1_ok(w:World)(p:Nat)(hp:p<96):Spec Tryz.prog 141 #[.int .i64 p,.int .i64 1] w fun v w'=>v=.tuple #[.int .i64 (((p+1)%96:Nat):Int),errOf 0]/\w=w':=by
 refine spec_of_wpE (T:=tt) tt_ok Tryz.func141 rfl (by decide +kernel) Tryz.ntmps141 (by simp) ?_;conv=>whnf
 repeat ((first|refine CW.s ?_);conv=>whnf)
 refine Ca.of (gis_ok w p hp) ?_;rintro _ _ ⟨rfl,rfl⟩;conv=>whnf
 repeat ((first|refine Br.f ?_|refine Ar.la ?_|refine Dv.r ?_);conv=>whnf)
 exact⟨rfl,by rw[show(((p+1)%96:Nat):Int)=((p:Int)+1%96+96)%96 by omega];rfl,rfl⟩
/-! The table of the blocks. -/
def poolF(st:Nat->Nat)(pn:Nat)(j:Nat):Value:=if j<12 then .int .i64 (st j:Nat) else .int .i64 (pn:Nat)
def PoolAt(w:World)(p:Nat)(st:Nat->Nat)(pn:Nat):Prop:=Row w p 220 13 (poolF st pn)
theorem poolF_st(st:Nat->Nat)(pn:Nat){b:Nat}(s:Nat)(hb:b<12)(j:Nat)(hj:j<13):put (poolF st pn) b (.int .i64 (s:Nat)) j=poolF (updf st b s) pn j:=by
 unfold put poolF updf;by_cases h:j=b
 ·subst h;simp[hb]
 ·simp[h]
theorem poolF_pn(st:Nat->Nat)(pn n:Nat)(j:Nat)(hj:j<13):put (poolF st pn) 12 (.int .i64 (n:Nat)) j=poolF st n j:=by
 unfold put poolF;by_cases h:j=12
 ·subst h;simp
 ·rw[if_neg h,if_pos (by omega),if_pos (by omega)]
section
variable{w:World}{p:Nat}{st:Nat->Nat}{pn:Nat}
theorem PoolAt.cst(r:PoolAt w p st pn){b:Nat}(hb:b<12):w.cell? ⟨p,b,none⟩=some (.int .i64 (st b:Nat)):=by
 have:=Row.cell r b (by omega);rw[this];unfold poolF;rw[if_pos hb]
theorem PoolAt.cpn(r:PoolAt w p st pn):w.cell? ⟨p,12,none⟩=some (.int .i64 (pn:Nat)):=Row.cell r 12 (by omega)
theorem pis_ok(b:Nat)(hb:b<12):Spec Tryz.prog 178 #[.int .i64 b] w fun v w'=>v=.bool true/\w=w':=by
 refine spec_of_wpE (T:=tt) tt_ok Tryz.func178 rfl (by decide +kernel) Tryz.ntmps178 (by simp) ?_;conv=>whnf
 repeat ((first|refine Br.t ?_|refine Pk.t ?_);conv=>whnf)
 exact⟨rfl,vb (by simp;omega),rfl⟩
def setSt(st:Nat->Nat)(b s:Nat):Nat->Nat:=if st b=3/\s≠3 then st else updf st b s
theorem pset_ok(r:PoolAt w p st pn)(b s:Nat)(hb:b<12)(hs:s<=3):Spec Tryz.prog 133 #[.pointer (some ⟨p,0,none⟩),.int .i64 b,.int .i64 s] w fun v w'=>(∃e,v=errOf e)/\PoolAt w' p (setSt st b s) pn/\Keep [p] w w':=by
 refine spec_of_wpE (T:=tt) tt_ok Tryz.func133 rfl (by decide +kernel) Tryz.ntmps133 (by simp) ?_;conv=>whnf
 repeat ((first|refine CW.s ?_);conv=>whnf)
 refine Ca.of (pis_ok b hb) ?_;rintro _ _ ⟨rfl,rfl⟩;unfold setSt;by_cases h3:st b=3
 ·by_cases hs3:s=3
  ·subst hs3;rw[if_neg (by simp)];conv=>whnf
   repeat ((first|(refine Ix.of b (by omega) (by omega) ?_)|(refine Ld.at (by omega) (r.cst hb) ?_)|refine Br.t ?_|refine Br.f ?_|refine Pk.f ?_|refine Pk.t ?_|refine Br.y ?_);conv=>whnf)
   refine Sd.rowAt r b (by omega) (by omega) rfl ?_;intro w2 r2 k2;conv=>whnf
   exact⟨rfl,⟨0,rfl⟩,r2.congr (fun j hj=>poolF_st st pn 3 hb j hj),k2⟩
  ·rw[if_pos ⟨h3,hs3⟩];conv=>whnf
   repeat ((first|(refine Ix.of b (by omega) (by omega) ?_)|(refine Ld.at (by omega) (r.cst hb) ?_)|refine Br.t ?_|refine Br.f ?_|refine Pk.f ?_|refine Pk.t ?_|refine Br.y ?_|refine Br.n ?_|refine Br.nn ?_);conv=>whnf)
   exact⟨rfl,⟨12,rfl⟩,r,Keep.refl _ _⟩
 ·rw[if_neg (fun e=>h3 e.1)];conv=>whnf
  repeat ((first|(refine Ix.of b (by omega) (by omega) ?_)|(refine Ld.at (by omega) (r.cst hb) ?_)|refine Br.f ?_|refine Pk.f ?_|refine Br.n ?_);conv=>whnf)
  refine Sd.rowAt r b (by omega) (by omega) rfl ?_;intro w2 r2 k2;conv=>whnf
  exact⟨rfl,⟨0,rfl⟩,r2.congr (fun j hj=>poolF_st st pn s hb j hj),k2⟩
def cntTo(st:Nat->Nat)(s:Nat):Nat->Nat
 |0=>0
 |n+1=>cntTo st s n+(if st n=s then 1 else 0)
def cntS(st:Nat->Nat)(s:Nat):Nat:=cntTo st s 12
theorem cntTo_le(st:Nat->Nat)(s:Nat):∀n,cntTo st s n<=n
 |0=>Nat.le_refl _
 | n+1=>by
  have:=cntTo_le st s n;unfold cntTo;split<;>omega
theorem size12i:(Tryz.prog.info? 70).map (·.size)=some 12:=by kernel_rfl
theorem count_ok(r:PoolAt w p st pn)(s:Nat):Spec Tryz.prog 144 #[.pointer (some ⟨p,0,none⟩),.int .i64 s] w fun v w'=>v=.int .i64 (cntS st s:Nat)/\w=w':=by
 refine spec_of_wpE (T:=tt) tt_ok Tryz.func144 rfl (by decide +kernel) Tryz.ntmps144 (by simp) ?_;conv=>whnf
 repeat ((first|refine CW.s ?_);conv=>whnf)
 refine Ru.ldaC r Tryz.underlying70 rfl size12i (by omega) (q:=fun j=>.int .i64 (st j:Nat)) (fun j hj=>by
  show poolF st pn (0+j)=_;unfold poolF;rw[Nat.zero_add,if_pos hj]) ?_
 conv=>whnf
 refine CW.loop (ι:=Nat) (fun i w'=>i<=12/\w'=w) (fun i=>[(1,.int .i64 s),(5,.int .i64 (cntTo st s i:Nat)),(11,agg 12 (fun j=>.int .i64 (st j:Nat))),(12,.int .i64 i)]) (fun i=>12-i) 0 tt_ok ⟨by omega,rfl⟩ ⟨rfl,rfl,rfl,rfl,trivial⟩ ?_;rintro i wr ⟨hi,rfl⟩;by_cases hl:i<12
 ·have hd:cntTo st s (i+1)=cntTo st s i+(if st i=s then 1 else 0):=rfl;have hle:=cntTo_le st s i;generalize cntTo st s i=n at *;by_cases he:st i=s
  ·rw[if_pos he] at hd;conv=>whnf
   repeat ((first|(refine Ru.idx Tryz.underlying70 hl (by kernel_rfl) ?_)|refine Ar.la ?_|refine Br.y ?_|refine CW.s ?_);conv=>whnf)
   exact⟨i+1,⟨hl,rfl⟩,⟨rfl,vi (by rw[hd];omega),rfl,vi (by omega),trivial⟩,by simp only;omega⟩
  ·rw[if_neg he] at hd;conv=>whnf
   repeat ((first|(refine Ru.idx Tryz.underlying70 hl (by kernel_rfl) ?_)|refine Ar.la ?_|refine Br.y ?_|refine Br.n ?_|refine CW.s ?_);conv=>whnf)
   exact⟨i+1,⟨hl,rfl⟩,⟨rfl,vi (by rw[hd];omega),rfl,vi (by omega),trivial⟩,by simp only;omega⟩
 ·obtain rfl:i=12:=by omega
  conv=>whnf
  repeat ((first|refine Br.f ?_|refine CW.s ?_);conv=>whnf)
  exact⟨rfl,rfl,rfl⟩
def wornB(st:Nat->Nat):Bool:=decide (2<cntS st 3)
def boundN(st:Nat->Nat):Nat:=if wornB st then 0 else 1+2*(2-cntS st 3)
def spareB(st:Nat->Nat):Bool:=decide (boundN st<cntS st 0)
theorem worn_ok(r:PoolAt w p st pn):Spec Tryz.prog 100 #[.pointer (some ⟨p,0,none⟩)] w fun v w'=>v=.bool (wornB st)/\w=w':=by
 refine spec_of_wpE (T:=tt) tt_ok Tryz.func100 rfl (by decide +kernel) Tryz.ntmps100 (by simp) ?_;conv=>whnf
 refine Ca.of (count_ok r 3) ?_;rintro _ _ ⟨rfl,rfl⟩;conv=>whnf
 exact⟨rfl,vb (by unfold wornB;exact decide_eq_decide.2 (by omega)),rfl⟩
theorem bound_ok(r:PoolAt w p st pn):Spec Tryz.prog 184 #[.pointer (some ⟨p,0,none⟩)] w fun v w'=>v=.int .i64 (boundN st:Nat)/\w=w':=by
 have hle:=cntTo_le st 3 12;have hle2:cntS st 3<=12:=hle;refine spec_of_wpE (T:=tt) tt_ok Tryz.func184 rfl (by decide +kernel) Tryz.ntmps184 (by simp) ?_;conv=>whnf
 repeat ((first|refine CW.s ?_);conv=>whnf)
 refine Ca.of (worn_ok r) ?_;rintro _ _ ⟨rfl,rfl⟩;unfold boundN
 cases hw:wornB st with
 | true =>
  conv=>whnf
  repeat ((first|refine Br.t ?_);conv=>whnf)
  exact⟨rfl,rfl,rfl⟩
 | false =>
  have h2:¬2<cntS st 3:=of_decide_eq_false hw;conv=>whnf
  repeat ((first|refine Br.f ?_);conv=>whnf)
  refine Ca.of (count_ok r 3) ?_;rintro _ _ ⟨rfl,rfl⟩;conv=>whnf
  repeat ((first|refine Ar.la ?_);conv=>whnf)
  exact⟨rfl,vi (by simp;omega),rfl⟩
theorem spare_ok(r:PoolAt w p st pn):Spec Tryz.prog 154 #[.pointer (some ⟨p,0,none⟩)] w fun v w'=>v=.bool (spareB st)/\w=w':=by
 refine spec_of_wpE (T:=tt) tt_ok Tryz.func154 rfl (by decide +kernel) Tryz.ntmps154 (by simp) ?_;conv=>whnf
 refine Ca.of (count_ok r 0) ?_;rintro _ _ ⟨rfl,rfl⟩;conv=>whnf
 refine Ca.of (bound_ok r) ?_;rintro _ _ ⟨rfl,rfl⟩;conv=>whnf
 exact⟨rfl,vb (by unfold spareB;exact decide_eq_decide.2 (by omega)),rfl⟩
def takeFrom(st:Nat->Nat)(pn:Nat):Nat->Option Nat
 |0=>none
 |n+1=>if st ((pn+(12-(n+1)))%12)=0 then some ((pn+(12-(n+1)))%12) else takeFrom st pn n
def takeN(st:Nat->Nat)(pn:Nat):Option Nat:=takeFrom st pn 12
def TakeEnd(w:World)(p:Nat)(st:Nat->Nat)(pn:Nat)(v:Value)(w':World):Prop:=match takeN st pn with
 |some b=>v=.tuple #[.int .i64 (b:Nat),errOf 0]/\PoolAt w' p (updf st b 1) (b+1)/\Keep [p] w w'
 |none=>v=.tuple #[.int .i64 0,errOf 10]/\w=w'
theorem takeFrom_lt{st:Nat->Nat}{pn:Nat}:∀ {n b:Nat},takeFrom st pn n=some b->b<12/\st b=0
 |0,b,h=>by cases h
 | n+1,b,h=>by
  unfold takeFrom at h;split at h
  ·rename_i h0
   cases h
   exact⟨Nat.mod_lt _ (by omega),h0⟩
  ·exact takeFrom_lt h
theorem ptake_ok(r:PoolAt w p st pn)(hpn:pn<=12):Spec Tryz.prog 147 #[.pointer (some ⟨p,0,none⟩)] w (TakeEnd w p st pn):=by
 refine spec_of_wpE (T:=tt) tt_ok Tryz.func147 rfl (by decide +kernel) Tryz.ntmps147 (by simp) ?_;conv=>whnf
 repeat ((first|refine CW.s ?_);conv=>whnf)
 refine CW.loop (ι:=Nat) (fun i w'=>i<=12/\w'=w/\takeN st pn=takeFrom st pn (12-i)) (fun i=>[(0,.pointer (some ⟨p,0,none⟩)),(6,.int .i64 i)]) (fun i=>12-i) 0 tt_ok ⟨by omega,rfl,rfl⟩ ⟨rfl,rfl,trivial⟩ ?_;rintro i wr ⟨hi,rfl,ht⟩;by_cases hl:i<12
 ·have hm:(pn+i)%12<12:=Nat.mod_lt _ (by omega);have e:takeFrom st pn (12-i)=if st ((pn+i)%12)=0 then some ((pn+i)%12) else takeFrom st pn (12-(i+1)):=by
   rw[show 12-i=(12-(i+1))+1 by omega];show(if st ((pn+(12-((12-(i+1))+1)))%12)=0 then _ else _)=_;rw[show 12-((12-(i+1))+1)=i by omega]
  have em:((pn:Int)+i)%12=(((pn+i)%12:Nat):Int):=by omega
  rw[e] at ht;generalize (pn+i)%12=b at *;by_cases h0:st b=0
  ·rw[if_pos h0] at ht;conv=>whnf
   repeat ((first|(refine Ld.at (by omega) r.cpn ?_)|(refine Ix.of b (by omega) (by omega) ?_)|(refine Ld.at (by omega) (r.cst hm) ?_)|refine Ar.la ?_|refine Dv.r ?_|refine Br.y ?_|refine CW.s ?_);conv=>whnf)
   refine Sd.rowAt r b (by omega) (by omega) rfl ?_;intro w2 r2 k2;have r2:PoolAt w2 p (updf st b 1) pn:=r2.congr (fun j hj=>poolF_st st pn 1 hm j hj);conv=>whnf
   repeat ((first|refine Ar.la ?_);conv=>whnf)
   refine Sd.rowAt r2 12 (by omega) (by omega) rfl ?_;intro w3 r3 k3;conv=>whnf
   refine⟨rfl,?_⟩;unfold TakeEnd;rw[ht];refine⟨by rw[em];rfl,Row.congr r3 (fun j hj=>?_),k2.trans k3⟩;have e2:((pn:Int)+i)%12+1=((b+1:Nat):Int):=by omega
   rw[e2];exact poolF_pn _ pn (b+1) j hj
  ·rw[if_neg h0] at ht;conv=>whnf
   repeat ((first|(refine Ld.at (by omega) r.cpn ?_)|(refine Ix.of b (by omega) (by omega) ?_)|(refine Ld.at (by omega) (r.cst hm) ?_)|refine Ar.la ?_|refine Dv.r ?_|refine Br.y ?_|refine Br.n ?_|refine CW.s ?_);conv=>whnf)
   exact⟨i+1,⟨hl,rfl,ht⟩,⟨rfl,vi (by omega),trivial⟩,by simp only;omega⟩
 ·obtain rfl:i=12:=by omega
  conv=>whnf
  repeat ((first|refine Br.f ?_|refine CW.s ?_);conv=>whnf)
  refine⟨rfl,?_⟩;unfold TakeEnd;rw[ht];exact⟨rfl,rfl⟩
end
def mapF(at_ ow:Nat->Nat)(j:Nat):Value:=if j<25 then .int .i64 (at_ j:Nat) else .int .i64 (ow (j-25):Nat)
def MapAt(w:World)(m:Nat)(at_ ow:Nat->Nat):Prop:=Row w m 188 121 (mapF at_ ow)
theorem mapF_at(at_ ow:Nat->Nat){o:Nat}(x:Nat)(ho:o<25)(j:Nat)(hj:j<121):put (mapF at_ ow) o (.int .i64 (x:Nat)) j=mapF (updf at_ o x) ow j:=by
 unfold put mapF updf;by_cases h:j=o
 ·subst h;simp[ho]
 ·simp[h]
theorem mapF_ow(at_ ow:Nat->Nat){p:Nat}(x:Nat)(hp:p<96)(j:Nat)(hj:j<121):put (mapF at_ ow) (25+p) (.int .i64 (x:Nat)) j=mapF at_ (updf ow p x) j:=by
 unfold put mapF updf;by_cases h:j=25+p
 ·subst h;rw[if_pos rfl,if_neg (by omega),if_pos (by omega)]
 ·rw[if_neg h];by_cases h2:j<25
  ·rw[if_pos h2,if_pos h2]
  ·rw[if_neg h2,if_neg h2,if_neg (by omega)]
structure MapWf(at_ ow:Nat->Nat):Prop where
 la:∀o,o<25->at_ o<=96
 lo:∀p,p<96->ow p<=25
def setAt(at_ ow:Nat->Nat)(o p:Nat):(Nat->Nat)×(Nat->Nat) :=
 if holdsB p o=false then (at_,ow) else if ow p≠0/\ow p≠o+1 then (at_,ow) else (updf at_ o (p+1),updf (if at_ o≠0 then updf ow (at_ o-1) 0 else ow) p (o+1))
def setErr(ow:Nat->Nat)(o p:Nat):Int:=if holdsB p o=false then 1 else if ow p≠0/\ow p≠o+1 then 12 else 0
section
variable{w:World}{m:Nat}{at_ ow:Nat->Nat}
theorem MapAt.cat(r:MapAt w m at_ ow){o:Nat}(ho:o<25):w.cell? ⟨m,o,none⟩=some (.int .i64 (at_ o:Nat)):=by
 have:=Row.cell r o (by omega);rw[this];unfold mapF;rw[if_pos ho]
theorem MapAt.cow(r:MapAt w m at_ ow){p:Nat}(hp:p<96):w.cell? ⟨m,25+p,none⟩=some (.int .i64 (ow p:Nat)):=by
 have:=Row.cell r (25+p) (by omega);rw[this];unfold mapF;rw[if_neg (by omega),Nat.add_sub_cancel_left]
theorem mset_ok(r:MapAt w m at_ ow)(W:MapWf at_ ow)(o p:Nat)(ho:o<=24)(hp:p<96):Spec Tryz.prog 131 #[.pointer (some ⟨m,0,none⟩),.int .i64 o,.int .i64 p] w fun v w'=>v=errOf (setErr ow o p)/\MapAt w' m (setAt at_ ow o p).1 (setAt at_ ow o p).2/\Keep [m] w w':=by
 have ho':o<25:=by omega
 have hla:=W.la o ho';have hlo:=W.lo p hp;have main:∀(ow':Nat->Nat) (w1:World),MapAt w1 m at_ ow'->MapAt ((w1.setCell ⟨m,o,none⟩ (.int .i64 ((p+1:Nat):Int))).setCell ⟨m,25+p,none⟩ (.int .i64 ((o+1:Nat):Int))) m (updf at_ o (p+1)) (updf ow' p (o+1)):=fun ow' w1 h1 =>
  Row.congr (Row.set (Row.congr (Row.set h1 o (.int .i64 ((p+1:Nat):Int))) (fun j hj=>mapF_at at_ ow' (p+1) ho' j hj)) (25+p) _) (fun j hj=>mapF_ow _ ow' (o+1) hp j hj);refine spec_of_wpE (T:=tt) tt_ok Tryz.func131 rfl (by decide +kernel) Tryz.ntmps131 (by simp) ?_;conv=>whnf
 refine Ca.of (holds_ok w p o hp ho) ?_;rintro _ _ ⟨rfl,rfl⟩
 cases hh:holdsB p o with
 | false =>
  have e1:setErr ow o p=1:=if_pos hh;have e2:setAt at_ ow o p=(at_,ow):=if_pos hh;rw[e1,e2];conv=>whnf
  repeat ((first|refine Br.t ?_|refine Br.f ?_|refine Pk.f ?_|refine Ru.neq_nil0 ?_|refine CW.s ?_);conv=>whnf)
  exact⟨rfl,rfl,r,Keep.refl _ _⟩
 | true =>
  have hf:¬holdsB p o=false:=by rw[hh];simp
  by_cases hb:ow p≠0/\ow p≠o+1
  ·have e1:setErr ow o p=12:=by unfold setErr;rw[if_neg hf,if_pos hb]
   have e2:setAt at_ ow o p=(at_,ow):=by unfold setAt;rw[if_neg hf,if_pos hb]
   obtain⟨hb1,hb2⟩:=hb;rw[e1,e2];conv=>whnf
   repeat ((first|(refine Ix.of p (by omega) (by omega) ?_)|(refine Ld.at (by omega) (r.cow hp) ?_)|refine Br.t ?_|refine Br.f ?_|refine Pk.f ?_|refine Pk.t ?_|refine Ar.la ?_|refine Br.nn ?_|refine Ru.neq_nil0 ?_|refine CW.s ?_);conv=>whnf)
   exact⟨rfl,rfl,r,Keep.refl _ _⟩
  ·have e1:setErr ow o p=0:=by unfold setErr;rw[if_neg hf,if_neg hb]
   have e2:setAt at_ ow o p=(updf at_ o (p+1),updf (if at_ o≠0 then updf ow (at_ o-1) 0 else ow) p (o+1)):=by unfold setAt;rw[if_neg hf,if_neg hb]
   rw[e1,e2];clear e1 e2 hf;have hb':ow p=0\/ow p=o+1:=by omega
   conv=>whnf
   refine CW.cut (ι:=Unit) (fun _ w'=>w'=w) (fun _=>[(0,.pointer (some ⟨m,0,none⟩)),(1,.int .i64 o),(2,.int .i64 p),(6,.nilIface)]) tt_ok ?_ ?_
   ·rcases hb' with h|h
    all_goals
     conv=>whnf
     repeat ((first|(refine Ix.of p (by omega) (by omega) ?_)|(refine Ld.at (by omega) (r.cow hp) ?_)|refine Br.t ?_|refine Br.f ?_|refine Pk.f ?_|refine Pk.t ?_|refine Ar.la ?_|refine Br.ny ?_|refine Br.nn ?_|refine Ru.neq_nil0 ?_);conv=>whnf)
     exact⟨(),rfl,⟨rfl,rfl,rfl,rfl,trivial⟩⟩
   ·rintro _ w1 rfl;conv=>whnf
    refine CW.cut (ι:=Unit) (fun _ w'=>MapAt w' m at_ (if at_ o≠0 then updf ow (at_ o-1) 0 else ow)/\Keep [m] w1 w') (fun _=>[(0,.pointer (some ⟨m,0,none⟩)),(1,.int .i64 o),(2,.int .i64 p),(6,.nilIface)]) tt_ok ?_ ?_
    ·by_cases h0:at_ o=0
     ·rw[if_neg (by simpa using h0)];conv=>whnf
      repeat ((first|(refine Ix.of o (by omega) (by omega) ?_)|(refine Ld.at (by omega) (r.cat ho') ?_)|refine Br.ny ?_);conv=>whnf)
      exact⟨(),⟨r,Keep.refl _ _⟩,⟨rfl,rfl,rfl,rfl,trivial⟩⟩
     ·rw[if_pos h0];have hx:at_ o-1<96:=by omega
      conv=>whnf
      repeat ((first|(refine Ix.of o (by omega) (by omega) ?_)|(refine Ld.at (by omega) (r.cat ho') ?_)|refine Br.nn ?_);conv=>whnf)
      refine CW.held (fun _=>True) [] (.take 0 (.take 1 (.take 2 (.take 3 (.take 4 (.take 5 (.take 8 (.take 9 (.one 6 (.take 7 (.take 10 (.one 11 (.done))))))))))))) tt_ok (by kernel_rfl) (by kernel_rfl) (by kernel_rfl) trivial ?_;have r1:MapAt (w1.drewN 1) m at_ ow:=Row.drewN r 1;have k1:Keep [m] w1 (w1.drewN 1):=(Keep.refl _ _).drewN 1;generalize w1.drewN 1=w2 at *;conv=>whnf
      repeat ((first|(refine Ix.of o (by omega) (by omega) ?_)|(refine Ld.at (by omega) (r1.cat ho') ?_)|(refine Ix.of (at_ o-1) (by omega) (by omega) ?_)|refine HS.t ?_|refine Ar.la ?_);conv=>whnf)
      refine Sd.rowAt r1 (25+(at_ o-1)) (by omega) (by omega) rfl ?_;intro w3 r3 k3;conv=>whnf
      repeat ((first|refine HS.t ?_);conv=>whnf)
      exact⟨(),⟨r3.congr (fun j hj=>mapF_ow at_ ow 0 hx j hj),k1.trans k3⟩,⟨rfl,rfl,rfl,rfl,trivial⟩⟩
    ·generalize (if at_ o≠0 then updf ow (at_ o-1) 0 else ow)=ow';rintro _ w2 ⟨r2,k2⟩;conv=>whnf
     refine CW.held (fun _=>True) [] (.take 0 (.take 1 (.take 2 (.take 3 (.take 4 (.take 5 (.take 6 (.take 7 (.take 8 (.take 9 (.take 10 (.take 12 (.take 13 (.one 11 (.take 14 (.one 15 (.done))))))))))))))))) tt_ok (by kernel_rfl) (by kernel_rfl) (by kernel_rfl) trivial ?_;have r3:MapAt (w2.drewN 1) m at_ ow':=Row.drewN r2 1;have k3:Keep [m] w1 (w2.drewN 1):=k2.drewN 1;generalize w2.drewN 1=w3 at *;have fin:=main ow' w3 r3;conv=>whnf
     repeat ((first|(refine Ix.of o (by omega) (by omega) ?_)|refine Ar.la ?_);conv=>whnf)
     refine Sd.setAt o (by omega) (r3.cat ho') (Row.free r3 _) rfl ?_;have r4:MapAt (w3.setCell ⟨m,o,none⟩ (.int .i64 ((p+1:Nat):Int))) m (updf at_ o (p+1)) ow':=Row.congr (Row.set r3 o _) (fun j hj=>mapF_at at_ ow' (p+1) ho' j hj);have k4:=k3.trans (Keep.set (w:=w3) m o (.int .i64 ((p+1:Nat):Int)));rw[show(p:Int)+1=((p+1:Nat):Int) by omega];generalize w3.setCell _ _=w4 at *;conv=>whnf
     repeat ((first|(refine Ix.of p (by omega) (by omega) ?_)|refine HS.t ?_);conv=>whnf)
     refine Sd.setAt (25+p) (by omega) (r4.cow hp) (Row.free r4 _) rfl ?_;have k5:=k4.trans (Keep.set (w:=w4) m (25+p) (.int .i64 ((o+1:Nat):Int)));rw[show(o:Int)+1=((o+1:Nat):Int) by omega];generalize w4.setCell _ _=w5 at *;conv=>whnf
     repeat ((first|refine HS.t ?_);conv=>whnf)
     exact⟨rfl,rfl,fin,k5⟩
theorem mat_ok(r:MapAt w m at_ ow)(o:Nat)(ho:o<=24)(hl:at_ o<=96):Spec Tryz.prog 62 #[.pointer (some ⟨m,0,none⟩),.int .i64 o] w fun v w'=>v=(if at_ o=0 then .tuple #[.int .i64 0,errOf 11] else .tuple #[.int .i64 ((at_ o-1:Nat):Int),errOf 0])/\w=w':=by
 have ho':o<25:=by omega
 refine spec_of_wpE (T:=tt) tt_ok Tryz.func62 rfl (by decide +kernel) Tryz.ntmps62 (by simp) ?_;by_cases h0:at_ o=0
 ·rw[if_pos h0];conv=>whnf
  repeat ((first|(refine Ix.of o (by omega) (by omega) ?_)|(refine Ld.at (by omega) (r.cat ho') ?_)|refine Br.f ?_|refine Pk.f ?_|refine Br.y ?_|refine Br.n ?_|refine CW.s ?_);conv=>whnf)
  exact⟨rfl,rfl,rfl⟩
 ·rw[if_neg h0];conv=>whnf
  repeat ((first|(refine Ix.of o (by omega) (by omega) ?_)|(refine Ld.at (by omega) (r.cat ho') ?_)|refine Br.f ?_|refine Pk.f ?_|refine Ar.la ?_|refine Br.n ?_|refine CW.s ?_);conv=>whnf)
  exact⟨rfl,by rw[show((at_ o-1:Nat):Int)=(at_ o:Int)-1 by omega];rfl,rfl⟩
theorem mowner_ok(r:MapAt w m at_ ow)(p:Nat)(hp:p<96)(hl:ow p<=25):Spec Tryz.prog 117 #[.pointer (some ⟨m,0,none⟩),.int .i64 p] w fun v w'=>v=(if ow p=0 then .tuple #[.int .i64 0,errOf 11] else .tuple #[.int .i64 ((ow p-1:Nat):Int),errOf 0])/\w=w':=by
 refine spec_of_wpE (T:=tt) tt_ok Tryz.func117 rfl (by decide +kernel) Tryz.ntmps117 (by simp) ?_;conv=>whnf
 repeat ((first|refine CW.s ?_);conv=>whnf)
 refine Ca.of (parts_ok w p hp) ?_;rintro _ _ ⟨rfl,rfl⟩;by_cases h0:ow p=0
 ·rw[if_pos h0];conv=>whnf
  repeat ((first|(refine Ix.of p (by omega) (by omega) ?_)|(refine Ld.at (by omega) (r.cow hp) ?_)|refine Br.f ?_|refine Br.y ?_|refine Ru.neq_nil0 ?_|refine CW.s ?_);conv=>whnf)
  exact⟨rfl,rfl,rfl⟩
 ·rw[if_neg h0];conv=>whnf
  repeat ((first|(refine Ix.of p (by omega) (by omega) ?_)|(refine Ld.at (by omega) (r.cow hp) ?_)|refine Br.f ?_|refine Ar.la ?_|refine Br.n ?_|refine Ru.neq_nil0 ?_|refine CW.s ?_);conv=>whnf)
  exact⟨rfl,by rw[show((ow p-1:Nat):Int)=(ow p:Int)-1 by omega];rfl,rfl⟩
theorem mdrop_ok(r:MapAt w m at_ ow)(o:Nat)(ho:o<=24)(hl:at_ o<=96)(h0:at_ o≠0):Spec Tryz.prog 67 #[.pointer (some ⟨m,0,none⟩),.int .i64 o] w fun v w'=>v=errOf 0/\MapAt w' m (updf at_ o 0) (updf ow (at_ o-1) 0)/\Keep [m] w w':=by
 have ho':o<25:=by omega
 have hx:at_ o-1<96:=by omega
 refine spec_of_wpE (T:=tt) tt_ok Tryz.func67 rfl (by decide +kernel) Tryz.ntmps67 (by simp) ?_;conv=>whnf
 refine Ca.of (mat_ok r o ho hl) ?_;rintro _ _ ⟨rfl,rfl⟩;rw[if_neg h0];conv=>whnf
 repeat ((first|refine Br.f ?_|refine Ru.neq_nil0 ?_|refine CW.s ?_);conv=>whnf)
 refine CW.held (fun _=>True) [] (.take 0 (.take 1 (.take 2 (.take 3 (.take 4 (.take 5 (.take 6 (.take 8 (.take 9 (.one 7 (.take 10 (.one 11 (.done))))))))))))) tt_ok (by kernel_rfl) (by kernel_rfl) (by kernel_rfl) trivial ?_;have r1:MapAt (w.drewN 1) m at_ ow:=Row.drewN r 1;have k1:Keep [m] w (w.drewN 1):=(Keep.refl _ _).drewN 1;generalize w.drewN 1=w1 at *;conv=>whnf
 repeat ((first|(refine Ix.of o (by omega) (by omega) ?_));conv=>whnf)
 refine Sd.setAt o (by omega) (r1.cat ho') (Row.free r1 _) rfl ?_;have r2:MapAt (w1.setCell ⟨m,o,none⟩ (.int .i64 0)) m (updf at_ o 0) ow:=Row.congr (Row.set r1 o _) (fun j hj=>mapF_at at_ ow 0 ho' j hj);have k2:=k1.trans (Keep.set (w:=w1) m o (.int .i64 0));generalize w1.setCell _ _=w2 at *;conv=>whnf
 repeat ((first|(refine Ix.of (at_ o-1) (by omega) (by omega) ?_)|refine HS.t ?_);conv=>whnf)
 refine Sd.setAt (25+(at_ o-1)) (by omega) (r2.cow hx) (Row.free r2 _) rfl ?_;have r3:MapAt (w2.setCell ⟨m,25+(at_ o-1),none⟩ (.int .i64 0)) m (updf at_ o 0) (updf ow (at_ o-1) 0):=Row.congr (Row.set r2 _ _) (fun j hj=>mapF_ow _ ow 0 hx j hj);have k3:=k2.trans (Keep.set (w:=w2) m (25+(at_ o-1)) (.int .i64 0));generalize w2.setCell _ _=w3 at *;conv=>whnf
 repeat ((first|refine HS.t ?_);conv=>whnf)
 exact⟨rfl,rfl,r3,k3⟩
end
end
namespace Hl
open Go.RowKit
def upd(F:Nat->Int)(i:Nat)(v:Int):Nat->Int:=fun j=>if j=i then v else F j
theorem put_upd(F:Nat->Int)(i:Nat)(v:Int):put (fun j=>Value.int .i64 (F j)) i (.int .i64 v)=fun j=>.int .i64 (upd F i v j):=by
 funext j;unfold put upd;split<;>rfl
def HB(F:Nat->Int):Prop:=∀b,b<12->(0<=F b/\F b<=65535)/\(0<=F (12+b)/\F (12+b)<=255)/\(0<=F (24+b)/\F (24+b)<=65535)
def rdF(F:Nat->Int)(b:Nat):Nat->Int:=upd F b (min (F b+1) 65535)
def rpF(F:Nat->Int)(b:Nat):Nat->Int:=upd F (12+b) (min (F (12+b)+1) 255)
def erF(F:Nat->Int)(b:Nat):Nat->Int:=upd (upd F b 0) (24+b) 0
def ntF(F:Nat->Int):Nat->Int:=fun j=>if j<24 then F j else F (j-24)
def dueB(F:Nat->Int):Bool:=(List.range 12).any fun b=>decide (64<=F b-F (24+b))
theorem HB.rd{F:Nat->Int}(h:HB F){k:Nat}(hk:k<12):HB (rdF F k):=fun b hb=>by
 have h1:=h b hb;unfold rdF upd;rw[if_neg (show ¬12+b=k by omega),if_neg (show ¬24+b=k by omega)];split
 ·rename_i e
  subst e;omega
 ·exact h1
theorem HB.rp{F:Nat->Int}(h:HB F){k:Nat}(hk:k<12):HB (rpF F k):=fun b hb=>by
 have h1:=h b hb;unfold rpF upd;rw[if_neg (show ¬b=12+k by omega),if_neg (show ¬24+b=12+k by omega)];split
 ·rename_i e
  have e:b=k:=by omega
  subst e;omega
 ·exact h1
theorem HB.er{F:Nat->Int}(h:HB F){k:Nat}(hk:k<12):HB (erF F k):=fun b hb=>by
 have h1:=h b hb;unfold erF upd;rw[if_neg (show ¬b=24+k by omega),if_neg (show ¬12+b=24+k by omega),if_neg (show ¬12+b=k by omega),if_neg (show ¬24+b=k by omega)];refine⟨?_,h1.2.1,?_⟩
 ·split
  ·omega
  ·exact h1.1
 ·split
  ·omega
  ·exact h1.2.2
theorem HB.nt{F:Nat->Int}(h:HB F):HB (ntF F):=fun b hb=>by
 have h1:=h b hb;unfold ntF;rw[if_pos (show b<24 by omega),if_pos (show 12+b<24 by omega),if_neg (show ¬24+b<24 by omega),show 24+b-24=b from by omega];exact⟨h1.1,h1.2.1,h1.1⟩
abbrev Hr(w:World)(h:Nat)(F:Nat->Int):Prop:=Row w h 223 36 (fun j=>.int .i64 (F j))
def ofE(b:Int):Int:=if 0<=b/\b<12 then 0 else 1
theorem of_ok(b:Int)(w:World):Spec Tryz.prog 142 #[.int .i64 b] w fun v w'=>v=errOf (ofE b)/\w=w':=by
 have hy:(0<=b/\b<12)->ofE b=0:=fun h=>if_pos h;have hn:¬(0<=b/\b<12)->ofE b=1:=fun h=>if_neg h;generalize ofE b=e at *;refine spec_of_wpE (T:=tt) tt_ok Tryz.func142 rfl (by decide +kernel) Tryz.ntmps142 (by simp) ?_;conv=>whnf
 repeat' ((first|refine Br.t ?_|refine Br.f ?_|refine Pk.f ?_|refine Pk.t ?_|refine CW.s ?_|refine Br.d (fun _=>?_) (fun _=>?_))<;>conv=>whnf)
 ·rw[hn (by omega)];exact⟨rfl,rfl,rfl⟩
 ·rw[hn (by omega)];exact⟨rfl,rfl,rfl⟩
 ·rw[hy (by omega)];exact⟨rfl,rfl,rfl⟩
section
variable(w:World)(h:Nat)(F:Nat->Int)
theorem ofE_in{k:Nat}(hk:k<12):ofE (k:Int)=0:=if_pos (by omega)
theorem read_ok(r:Hr w h F)(B:HB F)(k:Nat)(hk:k<12):Spec Tryz.prog 116 #[.pointer (some ⟨h,0,none⟩),.int .i64 k] w fun v w'=>v=.nilIface/\Hr w' h (rdF F k)/\Keep [h] w w':=by
 have hb:=(B k hk).1;refine spec_of_wpE (T:=tt) tt_ok Tryz.func116 rfl (by decide +kernel) Tryz.ntmps116 (by simp) ?_;conv=>whnf
 repeat ((first|refine CW.s ?_);conv=>whnf)
 refine Ca.of (of_ok k w) ?_;rintro _ _ ⟨rfl,rfl⟩;rw[ofE_in hk];conv=>whnf
 repeat ((first|refine Br.f ?_|refine Ru.neq_nil0 ?_);conv=>whnf)
 refine CW.held (fun _=>True) [] (.take 0 (.take 1 (.take 2 (.take 3 (.take 4 (.take 5 (.take 6 (.take 10 (.take 11 (.one 7 (.take 8 (.take 9 (.take 12 (.one 13 (.done))))))))))))))) tt_ok (by kernel_rfl) (by kernel_rfl) (by kernel_rfl) trivial ?_;conv=>whnf
 repeat ((first|(refine Ld.rowAt (r.drewN 1) (k) (by omega) (by omega) ?_)|refine HS.t ?_|refine Ix.n ?_|refine Ar.la ?_);conv=>whnf)
 refine Sd.rowAt (r.drewN 1) (k) (by omega) (by omega) rfl ?_;rw[put_upd];intro w2 r2 k2;conv=>whnf
 repeat ((first|refine HS.t ?_);conv=>whnf)
 exact⟨rfl,rfl,r2,((Keep.refl _ w).drewN 1).trans k2⟩
theorem report_ok(r:Hr w h F)(B:HB F)(k:Nat)(hk:k<12):Spec Tryz.prog 118 #[.pointer (some ⟨h,0,none⟩),.int .i64 k] w fun v w'=>v=.nilIface/\Hr w' h (rpF F k)/\Keep [h] w w':=by
 have hb:=(B k hk).2.1;refine spec_of_wpE (T:=tt) tt_ok Tryz.func118 rfl (by decide +kernel) Tryz.ntmps118 (by simp) ?_;conv=>whnf
 repeat ((first|refine CW.s ?_);conv=>whnf)
 refine Ca.of (of_ok k w) ?_;rintro _ _ ⟨rfl,rfl⟩;rw[ofE_in hk];conv=>whnf
 repeat ((first|refine Br.f ?_|refine Ru.neq_nil0 ?_);conv=>whnf)
 refine CW.held (fun _=>True) [] (.take 0 (.take 1 (.take 2 (.take 3 (.take 4 (.take 5 (.take 6 (.take 10 (.take 11 (.one 7 (.take 8 (.take 9 (.take 12 (.one 13 (.done))))))))))))))) tt_ok (by kernel_rfl) (by kernel_rfl) (by kernel_rfl) trivial ?_;conv=>whnf
 repeat ((first|(refine Ld.rowAt (r.drewN 1) (12+k) (by omega) (by omega) ?_)|refine HS.t ?_|refine Ix.n ?_|refine Ar.la ?_);conv=>whnf)
 refine Sd.rowAt (r.drewN 1) (12+k) (by omega) (by omega) rfl ?_;rw[put_upd];intro w2 r2 k2;conv=>whnf
 repeat ((first|refine HS.t ?_);conv=>whnf)
 exact⟨rfl,rfl,r2,((Keep.refl _ w).drewN 1).trans k2⟩
theorem erased_ok(r:Hr w h F)(k:Nat)(hk:k<12):Spec Tryz.prog 135 #[.pointer (some ⟨h,0,none⟩),.int .i64 k] w fun v w'=>v=.nilIface/\Hr w' h (erF F k)/\Keep [h] w w':=by
 refine spec_of_wpE (T:=tt) tt_ok Tryz.func135 rfl (by decide +kernel) Tryz.ntmps135 (by simp) ?_;conv=>whnf
 repeat ((first|refine CW.s ?_);conv=>whnf)
 refine Ca.of (of_ok k w) ?_;rintro _ _ ⟨rfl,rfl⟩;rw[ofE_in hk];conv=>whnf
 repeat ((first|refine Br.f ?_|refine Ru.neq_nil0 ?_);conv=>whnf)
 refine CW.held (fun _=>True) [] (.take 0 (.take 1 (.take 2 (.take 3 (.take 4 (.take 5 (.take 6 (.take 8 (.take 9 (.one 7 (.take 10 (.one 11 (.done))))))))))))) tt_ok (by kernel_rfl) (by kernel_rfl) (by kernel_rfl) trivial ?_;conv=>whnf
 repeat ((first|refine Ix.n ?_);conv=>whnf)
 refine Sd.rowAt (r.drewN 1) k (by omega) (by omega) rfl ?_;rw[put_upd];intro w2 r2 k2;conv=>whnf
 repeat ((first|refine HS.t ?_|refine Ix.n ?_);conv=>whnf)
 refine Sd.rowAt r2 (24+k) (by omega) (by omega) rfl ?_;rw[put_upd];intro w3 r3 k3;conv=>whnf
 repeat ((first|refine HS.t ?_);conv=>whnf)
 exact⟨rfl,rfl,r3,(((Keep.refl _ w).drewN 1).trans k2).trans k3⟩
theorem tired_ok(r:Hr w h F)(k:Nat)(hk:k<12):Spec Tryz.prog 97 #[.pointer (some ⟨h,0,none⟩),.int .i64 k] w fun v w'=>v=.tuple #[.bool (decide (F (k)≥512)),.nilIface]/\w=w':=by
 refine spec_of_wpE (T:=tt) tt_ok Tryz.func97 rfl (by decide +kernel) Tryz.ntmps97 (by simp) ?_;conv=>whnf
 repeat ((first|refine CW.s ?_);conv=>whnf)
 refine Ca.of (of_ok k w) ?_;rintro _ _ ⟨rfl,rfl⟩;rw[ofE_in hk];conv=>whnf
 repeat ((first|(refine Ld.rowAt r (k) (by omega) (by omega) ?_)|refine Br.f ?_|refine Ix.n ?_|refine Ru.neq_nil0 ?_);conv=>whnf)
 exact⟨rfl,rfl,rfl⟩
theorem weak_ok(r:Hr w h F)(k:Nat)(hk:k<12):Spec Tryz.prog 101 #[.pointer (some ⟨h,0,none⟩),.int .i64 k] w fun v w'=>v=.tuple #[.bool (decide (F (12+k)≥3)),.nilIface]/\w=w':=by
 refine spec_of_wpE (T:=tt) tt_ok Tryz.func101 rfl (by decide +kernel) Tryz.ntmps101 (by simp) ?_;conv=>whnf
 repeat ((first|refine CW.s ?_);conv=>whnf)
 refine Ca.of (of_ok k w) ?_;rintro _ _ ⟨rfl,rfl⟩;rw[ofE_in hk];conv=>whnf
 repeat ((first|(refine Ld.rowAt r (12+k) (by omega) (by omega) ?_)|refine Br.f ?_|refine Ix.n ?_|refine Ru.neq_nil0 ?_);conv=>whnf)
 exact⟨rfl,rfl,rfl⟩
end
theorem size12:(Tryz.prog.info? 221).map (·.size)=some 12:=by kernel_rfl
theorem int_cell:cellTy Tryz.prog 3=true:=by kernel_rfl
theorem due_yes{F:Nat->Int}{k:Nat}(hk:k<12)(h:64<=F k-F (24+k)):dueB F=true:=List.any_eq_true.2 ⟨k,List.mem_range.2 hk,decide_eq_true h⟩
theorem due_no{F:Nat->Int}(h:∀k,k<12->¬64<=F k-F (24+k)):dueB F=false:=by
 unfold dueB;rw[Bool.eq_false_iff];intro e;obtain⟨k,hk,hd⟩:=List.any_eq_true.1 e;exact h k (List.mem_range.1 hk) (of_decide_eq_true hd)
section
variable(w:World)(h:Nat)(F:Nat->Int)
theorem lay_nt(j:Nat)(hj:j<36):lay (fun j=>Value.int .i64 (F j)) 24 12 (fun j=>.int .i64 (F (0+j))) j=.int .i64 (ntF F j):=by
 unfold lay ntF;by_cases h:j<24
 ·rw[if_neg (by omega),if_pos h]
 ·rw[if_pos (by omega),if_neg h];show Value.int .i64 (F (0+(j-24)))=_;rw[Nat.zero_add]
theorem noted_ok(r:Hr w h F):Spec Tryz.prog 161 #[.pointer (some ⟨h,0,none⟩)] w fun v w'=>v=.tuple #[]/\Hr w' h (ntF F)/\Keep [h] w w':=by
 refine spec_of_wpE (T:=tt) tt_ok Tryz.func161 rfl (by decide +kernel) Tryz.ntmps161 (by simp) ?_;conv=>whnf
 refine Ru.lda r Tryz.underlying221 rfl size12 (by omega) ?_;conv=>whnf
 refine Ru.sta r size12 (by omega) (fun _ _=>rfl) ?_;intro w2 r2 k2;conv=>whnf
 exact⟨rfl,rfl,r2.congr (fun j hj=>by rw[Nat.zero_add] at *;exact lay_nt F j hj),k2⟩
theorem due_ok(r:Hr w h F)(B:HB F):Spec Tryz.prog 104 #[.pointer (some ⟨h,0,none⟩)] w fun v w'=>v=.bool (dueB F)/\w=w':=by
 have hd1:=fun k hk=>due_yes (F:=F) (k:=k) hk;have hd0:=due_no (F:=F);generalize dueB F=d at *;refine spec_of_wpE (T:=tt) tt_ok Tryz.func104 rfl (by decide +kernel) Tryz.ntmps104 (by simp) ?_;conv=>whnf
 repeat ((first|refine CW.s ?_);conv=>whnf)
 refine Ru.lda r Tryz.underlying221 rfl size12 (by omega) ?_;conv=>whnf
 refine CW.loop (ι:=Nat) (fun i w'=>(i<=12/\∀j,j<i->¬64<=F j-F (24+j))/\w=w') (fun i=>[(0,.pointer (some ⟨h,0,none⟩)),(8,agg 12 (fun j=>.int .i64 (F (0+j)))),(9,.int .i64 i)]) (fun i=>12-i) 0 tt_ok ⟨⟨by omega,fun j hj=>by omega⟩,rfl⟩ ⟨rfl,rfl,rfl,trivial⟩ ?_;rintro k _ ⟨⟨hk,ha⟩,rfl⟩;by_cases hlt:k<12
 ·have hb:=B k hlt;conv=>whnf
  repeat ((first|refine Br.y ?_|refine CW.s ?_);conv=>whnf)
  refine Ru.idx Tryz.underlying221 hlt int_cell ?_;rw[Nat.zero_add];conv=>whnf
  repeat' ((first|(refine Ld.rowAt r (24+k) (by omega) (by omega) ?_)|refine Ix.n ?_|refine Ar.la ?_|refine Br.d (fun _=>?_) (fun _=>?_))<;>conv=>whnf)
  ·rw[hd1 k hlt (by omega)];exact⟨rfl,rfl,rfl⟩
  ·exact⟨k+1,⟨⟨hlt,fun j hj=>by
    by_cases e:j=k
    ·subst e;omega
    ·exact ha j (by omega)⟩,rfl⟩,⟨rfl,rfl,rfl,trivial⟩,by simp only;omega⟩
 ·obtain rfl:k=12:=by omega
  rw[hd0 ha];conv=>whnf
  repeat ((first|refine Br.f ?_|refine CW.s ?_);conv=>whnf)
  exact⟨rfl,rfl,rfl⟩
end
def newF(f g:Nat->Int):Nat->Int:=fun j=>if j<12 then min (f j) 65535 else if j<24 then min (g (j-12)) 255 else min (f (j-24)) 65535
def newOk(n m:Nat)(f g:Nat->Int):Prop:=n=12/\m=12/\∀j,j<12->0<=f j/\0<=g j
theorem HB.new{f g:Nat->Int}(h:∀j,j<12->0<=f j/\0<=g j):HB (newF f g):=fun b hb=>by
 have h1:=h b hb;unfold newF;rw[if_pos hb,if_neg (show ¬12+b<12 by omega),if_pos (show 12+b<24 by omega),if_neg (show ¬24+b<12 by omega),if_neg (show ¬24+b<24 by omega),show 12+b-12=b from by omega,show 24+b-24=b from by omega];omega
def midF(f g:Nat->Int)(a b:Nat):Nat->Int:=fun j=>if j<12 then (if j<a then min (f j) 65535 else 0) else if j<24 then (if j-12<b then min (g (j-12)) 255 else 0) else 0
theorem mid_rd(f g:Nat->Int)(k b:Nat)(hk:k<12):upd (midF f g k b) k (min (f k) 65535)=midF f g (k+1) b:=by
 funext j;unfold upd midF;by_cases h:j=k
 ·subst h;rw[if_pos rfl,if_pos hk,if_pos (by omega)]
 ·rw[if_neg h];by_cases h12:j<12
  ·rw[if_pos h12,if_pos h12];by_cases h2:j<k
   ·rw[if_pos h2,if_pos (by omega)]
   ·rw[if_neg h2,if_neg (by omega)]
  ·rw[if_neg h12,if_neg h12]
theorem mid_sc(f g:Nat->Int)(a k:Nat)(hk:k<12):upd (midF f g a k) (12+k) (min (g k) 255)=midF f g a (k+1):=by
 funext j;unfold upd midF;by_cases h:j=12+k
 ·subst h;rw[if_pos rfl,if_neg (by omega),if_pos (by omega),if_pos (by omega),show 12+k-12=k from by omega]
 ·rw[if_neg h];by_cases h12:j<12
  ·rw[if_pos h12,if_pos h12]
  ·rw[if_neg h12,if_neg h12];by_cases h24:j<24
   ·rw[if_pos h24,if_pos h24];by_cases h2:j-12<k
    ·rw[if_pos h2,if_pos (by omega)]
    ·rw[if_neg h2,if_neg (by omega)]
   ·rw[if_neg h24,if_neg h24]
theorem mid_end(f g:Nat->Int)(j:Nat)(hj:j<36):lay (fun j=>Value.int .i64 (midF f g 12 12 j)) 24 12 (fun j=>.int .i64 (midF f g 12 12 (0+j))) j=.int .i64 (newF f g j):=by
 rw[lay_nt _ j hj];congr 1;unfold ntF midF newF;by_cases h12:j<12
 ·rw[if_pos (show j<24 by omega),if_pos h12,if_pos h12,if_pos h12]
 ·by_cases h24:j<24
  ·rw[if_pos h24,if_neg h12,if_pos h24,if_pos (by omega),if_neg h12,if_pos h24]
  ·rw[if_neg h24,if_pos (show j-24<12 by omega),if_pos (show j-24<12 by omega),if_neg h12,if_neg h24]
theorem zero_h(w:World):(Instr.build 223 #[]).run Tryz.prog w=.ok (agg 36 (fun _=>.int .i64 0)) w:=by kernel_rfl
theorem mid_zero(f g:Nat->Int):(fun j=>Value.int .i64 (midF f g 0 0 j))=fun _=>.int .i64 0:=by
 funext j;unfold midF;by_cases h12:j<12
 ·rw[if_pos h12,if_neg (by omega)]
 ·rw[if_neg h12];by_cases h24:j<24
  ·rw[if_pos h24,if_neg (by omega)]
  ·rw[if_neg h24]
def NewPost(n m:Nat)(f g:Nat->Int)(w:World)(v:Value)(w':World):Prop:=Keep [] w w'/\((newOk n m f g/\∃h,v=.tuple #[.pointer (some ⟨h,0,none⟩),.nilIface]/\Hr w' h (newF f g)/\w.heap.size<=h)\/(¬newOk n m f g/\v=.tuple #[.pointer none,errOf 1]))
section
variable(A B:Option Addr)(n m c d:Nat)(f g:Nat->Int)(w:World)(ra:Rd w A n (fun j=>.int .i64 (f j)))(rb:Rd w B m (fun j=>.int .i64 (g j)))(hf:∀j,-9223372036854775808<=f j/\f j<=9223372036854775807)(hg:∀j,-9223372036854775808<=g j/\g j<=9223372036854775807)
include ra rb hf hg
theorem new_ok:Spec Tryz.prog 125 #[.slice A n c,.slice B m d] w (NewPost n m f g w):=by
 refine spec_of_wpE (T:=tt) tt_ok Tryz.func125 rfl (by decide +kernel) Tryz.ntmps125 (by simp) ?_;by_cases hn:n=12
 case neg =>
  conv=>whnf
  repeat ((first|refine Br.t ?_|refine Pk.t ?_|refine Br.nn ?_|refine CW.s ?_);conv=>whnf)
  exact⟨rfl,Keep.refl _ _,.inr ⟨fun h=>hn h.1,rfl⟩⟩
 by_cases hm:m=12
 case neg =>
  conv=>whnf
  repeat ((first|refine Br.f ?_|refine Pk.f ?_|refine Br.ny ?_|refine Br.nn ?_|refine CW.s ?_);conv=>whnf)
  exact⟨rfl,Keep.refl _ _,.inr ⟨fun h=>hm h.2.1,rfl⟩⟩
 subst hn;subst hm;obtain⟨ba,oa,rfl,ca⟩:=ra (by omega);obtain⟨bb,ob,rfl,cb⟩:=rb (by omega);conv=>whnf
 repeat ((first|refine Br.f ?_|refine Pk.f ?_|refine CW.s ?_);conv=>whnf)
 refine Ru.of (zero_h w) ?_;rw[<-mid_zero f g];conv=>whnf
 refine Ru.boxa ?_;intro h w1 hh hs1 r k1;conv=>whnf
 repeat ((first|refine CW.s ?_);conv=>whnf)
 refine CW.loop (ι:=Nat) (fun i w'=>(i<=12/\∀j,j<i->0<=f j/\0<=g j)/\Hr w' h (midF f g i i)/\Keep [] w w') (fun i=>[(0,.slice (some ⟨ba,oa,none⟩) 12 c),(1,.slice (some ⟨bb,ob,none⟩) 12 d),(6,.pointer (some ⟨h,0,none⟩)),(19,.int .i64 i)]) (fun i=>12-i) 0 tt_ok ⟨⟨by omega,fun j hj=>by omega⟩,r,k1⟩ ⟨rfl,rfl,rfl,rfl,trivial⟩ ?_;rintro k wr ⟨⟨hk,ha⟩,r,kk⟩;by_cases hlt:k<12
 ·have fa:=hf k;have ga:=hg k;have ea:wr.cell? ⟨ba,oa+k,none⟩=some (.int .i64 (f k)):=(kk.cell (p:=⟨ba,oa+k,none⟩) (cell_lt (ca k hlt)) (by simp)).trans (ca k hlt);have eb:wr.cell? ⟨bb,ob+k,none⟩=some (.int .i64 (g k)):=(kk.cell (p:=⟨bb,ob+k,none⟩) (cell_lt (cb k hlt)) (by simp)).trans (cb k hlt);by_cases hfk:f k<0
  ·conv=>whnf
   repeat ((first|refine Br.t ?_|refine Pk.t ?_|refine Ix.n ?_|refine Br.y ?_|refine Ld.of (by assumption) ?_|refine CW.s ?_);conv=>whnf)
   exact⟨rfl,kk,.inr ⟨fun e=>by have:=(e.2.2 k hlt).1;omega,rfl⟩⟩
  by_cases hgk:g k<0
  ·conv=>whnf
   repeat ((first|refine Br.f ?_|refine Pk.f ?_|refine Ix.n ?_|refine Br.y ?_|refine Br.n ?_|refine Ld.of (by assumption) ?_|refine CW.s ?_);conv=>whnf)
   exact⟨rfl,kk,.inr ⟨fun e=>by have:=(e.2.2 k hlt).2;omega,rfl⟩⟩
  conv=>whnf
  repeat ((first|refine Br.f ?_|refine Pk.f ?_|refine Ix.n ?_|refine Br.y ?_|refine Br.n ?_|refine Ld.of (by assumption) ?_|refine CW.s ?_);conv=>whnf)
  refine CW.held (fun _=>True) [] (.take 0 (.take 1 (.take 2 (.take 3 (.take 4 (.take 7 (.take 8 (.one 5 (.take 6 (.take 9 (.one 10 (.done)))))))))))) tt_ok (by kernel_rfl) (by kernel_rfl) (by kernel_rfl) trivial ?_;conv=>whnf
  repeat ((first|(refine Ld.of (v:=.int .i64 (f k)) ea ?_)|refine HS.t ?_|refine Ix.n ?_);conv=>whnf)
  refine Sd.rowAt (r.drewN 1) k (by omega) (by omega) rfl ?_;rw[put_upd,mid_rd f g k k hlt];intro w2 r2 k2;have kk2:Keep [] w w2:=(kk.drewN 1).then k2 (fun x hx=>.inr (by rw[List.mem_singleton.1 hx,hh];exact Nat.le_refl _));have eb2:w2.cell? ⟨bb,ob+k,none⟩=some (.int .i64 (g k)):=(kk2.cell (p:=⟨bb,ob+k,none⟩) (cell_lt (cb k hlt)) (by simp)).trans (cb k hlt);conv=>whnf
  repeat ((first|refine HS.t ?_);conv=>whnf)
  refine CW.held (fun _=>True) [] (.take 0 (.take 1 (.take 2 (.take 3 (.take 4 (.take 7 (.take 8 (.one 5 (.take 6 (.take 9 (.one 10 (.done)))))))))))) tt_ok (by kernel_rfl) (by kernel_rfl) (by kernel_rfl) trivial ?_;conv=>whnf
  repeat ((first|(refine Ld.of (v:=.int .i64 (g k)) eb2 ?_)|refine HS.t ?_|refine Ix.n ?_);conv=>whnf)
  refine Sd.rowAt (r2.drewN 1) (12+k) (by omega) (by omega) rfl ?_;rw[put_upd,mid_sc f g (k+1) k hlt];intro w3 r3 k3;have kk3:Keep [] w w3:=(kk2.drewN 1).then k3 (fun x hx=>.inr (by rw[List.mem_singleton.1 hx,hh];exact Nat.le_refl _));conv=>whnf
  repeat ((first|refine HS.t ?_|refine Ar.la ?_);conv=>whnf)
  exact⟨k+1,⟨⟨hlt,fun j hj=>by
   by_cases e:j=k
   ·subst e;omega
   ·exact ha j (by omega)⟩,r3,kk3⟩,⟨rfl,rfl,rfl,rfl,trivial⟩,by simp only;omega⟩
 ·obtain rfl:k=12:=by omega
  conv=>whnf
  repeat ((first|refine Br.f ?_|refine CW.s ?_);conv=>whnf)
  refine Ru.lda r Tryz.underlying221 rfl size12 (by omega) ?_;conv=>whnf
  refine Ru.sta r size12 (by omega) (fun _ _=>rfl) ?_;intro w2 r2 k2;conv=>whnf
  exact⟨rfl,kk.then k2 (fun x hx=>.inr (by rw[List.mem_singleton.1 hx,hh];exact Nat.le_refl _)),.inl ⟨⟨rfl,rfl,ha⟩,h,rfl,r2.congr (fun j hj=>mid_end f g j hj),by rw[hh];exact Nat.le_refl _⟩⟩
end
theorem clone_nil(w:World)(x:Operand)(a:Addr)(n c:Nat):(do eqGuard .eql 23 x (.const (.slice none 0 0)) (.slice (some a) n c) (.slice none 0 0);binOp .eql 23 (.slice (some a) n c) (.slice none 0 0):Sem Value).run Tryz.prog w=.ok (.bool false) w:=by kernel_rfl
theorem build_i0(w:World):(Instr.buildSlice 23 0 #[]).run Tryz.prog w=.ok (.slice (some ⟨w.heap.size,0,none⟩) 0 0) (w.alloc (.cells #[] 3)):=by kernel_rfl
structure OwnI(w0 w:World)(X:Option Addr)(n c:Nat)(f:Nat->Int):Prop where
 ly:Ly w 3 1 X n c (fun j=>.int .i64 (f j))
 new:∀x,x∈blk X->w0.heap.size<=x
 keep:Keep [] w0 w
theorem clone_ok(a:Addr)(n c:Nat)(f:Nat->Int)(w:World)(r:Rd w (some a) n (fun j=>.int .i64 (f j)))(hc:n<=c)(hn:n*8<=140737488355328) :
  Spec Tryz.prog 140 #[.slice (some a) n c] w fun v w'=>∃Y e,v=.slice Y n e/\OwnI w w' Y n e f:=by
 obtain⟨i0,hi,hz0,hz1,hz2⟩:=info_parts int_info;refine spec_of_wpE (T:=tt) tt_ok Tryz.func140 rfl (by decide +kernel) Tryz.ntmps140 (by simp) ?_;conv=>whnf
 repeat ((first|refine CW.s ?_);conv=>whnf)
 refine Ru.of (clone_nil w _ a n c) ?_;conv=>whnf
 repeat ((first|refine Br.f ?_);conv=>whnf)
 refine Ru.of (build_i0 w) ?_;have l0:Ly (w.alloc (.cells #[] 3)) 3 1 (some ⟨w.heap.size,0,none⟩) 0 0 (fun j=>.int .i64 (f j)):=Ly.of_arr (heap_alloc_new w _) (Nat.le_refl _) (by simp) (by simp[maxLen]) (fun j hj=>by omega);have k0:Keep [] w (w.alloc (.cells #[] 3)):=(Keep.refl _ _).alloc _;conv=>whnf
 refine Bu.append Tryz.underlying23 hi hz0 hz1 hz2 rfl (by omega) l0 _ (by rw[Nat.mul_one];exact r.keep0 k0) hc (fun e=>by cases e) (fun j hj=>rfl) (by simp only[maxLen];omega) (by omega) ?_;intro Y e w' hy hk hat hpre;have hnew:∀x,x∈blk Y->w.heap.size<=x:=fun x hx=>by
  rcases hat with h|h
  ·rw[h] at hx;rw[List.mem_singleton.1 hx];exact Nat.le_refl _
  ·rw[h] at hx;rw[List.mem_singleton.1 hx];exact k0.size
 have hkw:Keep [] w w':=k0.then hk (fun x hx=>.inr (by rw[List.mem_singleton.1 hx];exact Nat.le_refl _));rw[Nat.zero_add] at *;conv=>whnf
 exact⟨rfl,Y,e,rfl,hy.congr (fun j hj=>by simp),hnew,hkw⟩
section
variable(w:World)(h:Nat)(F:Nat->Int)
theorem reads_ok(r:Hr w h F):Spec Tryz.prog 91 #[.pointer (some ⟨h,0,none⟩)] w fun v w'=>∃Y e,v=.slice Y 12 e/\OwnI w w' Y 12 e F:=by
 refine spec_of_wpE (T:=tt) tt_ok Tryz.func91 rfl (by decide +kernel) Tryz.ntmps91 (by simp) ?_;conv=>whnf
 refine Ru.sliceArr (sz:=1) Tryz.underlying221 (by kernel_rfl) ?_;conv=>whnf
 refine Ca.of (clone_ok ⟨h,0+0,none⟩ 12 12 F w (fun _=>⟨h,0,rfl,fun j hj=>by rw[Nat.zero_add];exact r.cell j (by omega)⟩) (by omega) (by omega)) ?_;rintro _ w2 ⟨Y,e,rfl,O⟩;conv=>whnf
 exact⟨rfl,Y,e,rfl,O⟩
theorem scores_ok(r:Hr w h F):Spec Tryz.prog 92 #[.pointer (some ⟨h,0,none⟩)] w fun v w'=>∃Y e,v=.slice Y 12 e/\OwnI w w' Y 12 e (fun j=>F (12+j)):=by
 refine spec_of_wpE (T:=tt) tt_ok Tryz.func92 rfl (by decide +kernel) Tryz.ntmps92 (by simp) ?_;conv=>whnf
 refine Ru.sliceArr (sz:=1) Tryz.underlying221 (by kernel_rfl) ?_;conv=>whnf
 refine Ca.of (clone_ok ⟨h,0+12,none⟩ 12 12 (fun j=>F (12+j)) w (fun _=>⟨h,12,by rw[Nat.zero_add],fun j hj=>r.cell (12+j) (by omega)⟩) (by omega) (by omega)) ?_;rintro _ w2 ⟨Y,e,rfl,O⟩;conv=>whnf
 exact⟨rfl,Y,e,rfl,O⟩
end
end Hl
section
open Go.RowKit
def lf(l:List Nat)(j:Nat):Value:=.int .i64 ((l.getD j 0:Nat):Int)
abbrev Ls(w:World)(X:Option Addr)(c:Nat)(l:List Nat):Prop:=Ly w 3 1 X l.length c (lf l)
theorem lf_push(l:List Nat)(x j:Nat)(hj:j<(l++[x]).length):(if j<l.length then lf l j else .int .i64 (x:Nat))=lf (l++[x]) j:=by
 unfold lf;by_cases h:j<l.length
 ·rw[if_pos h];simp[List.getD_eq_getElem?_getD,List.getElem?_append_left h]
 ·have:j=l.length:=by simp at hj;omega
  subst this;simp
theorem Bu.push{w:World}{X:Option Addr}{c:Nat}{l:List Nat}{ty:TypeId}{cs:Array Bool}{K:Value->World->Prop}(h:Ls w X c l)(x:Nat){B:Option Addr}{d:Nat}(hr:Rd w B 1 (fun _=>.int .i64 (x:Nat)))(hd:1<=d)(hb:l.length<=1000000)
  (k:∀Y e w',Ls w' Y e (l++[x])->Keep (blk X) w w'->(Y=X\/Y=some ⟨w.heap.size,0,none⟩)->K (.slice Y (l++[x]).length e) w'):Bu Tryz.prog .append #[23,23] ty cs #[.slice X l.length c,.slice B 1 d] w K:=by
 obtain⟨i0,hi,hz0,hz1,hz2⟩:=info_parts int_info
 refine Bu.append Tryz.underlying23 hi hz0 hz1 hz2 rfl (by omega) h (fun _=>.int .i64 (x:Nat)) (by rw[Nat.mul_one];exact hr) hd (fun e=>by
  obtain⟨b,o,hb,_⟩:=hr (by omega);rw[hb] at e
  cases e) (fun _ _=>rfl) (by simp only[maxLen];omega) (by omega) ?_
 intro Y e w' hy hk hat _;have hy2:Ls w' Y e (l++[x]):=by
  have:(l++[x]).length=l.length+1:=by simp
  unfold Ls;rw[this];refine hy.congr (fun j hj=>?_);simp only[Nat.mul_one] at hj ⊢;exact lf_push l x j (by simp;omega)
 have:=k Y e w' hy2 hk hat
 rwa [show(l++[x]).length=l.length+1 by simp] at this
theorem build_i1(v:Int)(w:World):(Instr.buildSlice 23 1 #[(0,.int .i64 v)]).run Tryz.prog w=.ok (.slice (some ⟨w.heap.size,0,none⟩) 1 1) (w.alloc (.cells #[.int .i64 v] 3)):=by kernel_rfl
def ofTo(ow:Nat->Nat)(b:Nat):Nat->List Nat
 |0=>[]
 |k+1=>if ow (8*b+k)=0 then ofTo ow b k else ofTo ow b k++[ow (8*b+k)-1]
def ofL(ow:Nat->Nat)(b:Nat):List Nat:=ofTo ow b 8
theorem ofTo_le(ow:Nat->Nat)(b:Nat):∀k,(ofTo ow b k).length<=k
 |0=>Nat.le_refl _
 | k+1=>by
  have:=ofTo_le ow b k;unfold ofTo;split
  ·omega
  ·simp;omega
def lvTo(at_:Nat->Nat):Nat->Nat->Nat
 |0,_=>0
 |n+1,b=>lvTo at_ n b+(if at_ n≠0/\(at_ n-1)/8=b then 1 else 0)
def lv(at_:Nat->Nat)(b:Nat):Nat:=lvTo at_ 25 b
theorem lvTo_le(at_:Nat->Nat):∀n b,lvTo at_ n b<=n
 |0,_=>Nat.le_refl _
 | n+1,b=>by
  have:=lvTo_le at_ n b;unfold lvTo;split<;>omega
theorem mk12_run(w:World):(Instr.makeSlice 23 (.int .i64 12) (.int .i64 12)).run Tryz.prog w=.ok (.slice (some ⟨w.heap.size,0,none⟩) 12 12) (w.alloc (.cells (madeCells #[.int .i64 0] 12) 3)):=by kernel_rfl
theorem size25:(Tryz.prog.info? 59).map (·.size)=some 25:=by kernel_rfl
theorem Ru.arr_lh{P:Program}{w:World}{t e:TypeId}{n g o l h:Nat}{x y:Int}{K:Value->World->Prop}(ex:x=(l:Int))(ey:y=(h:Int))(hu:P.underlying t=some (.array n e))(hs:szIs P e 1=true)(hl:l<=h)(hh:h<=n)(hln:l<n)(k:K (.slice (some ⟨g,o+l,none⟩) (h-l) (n-l)) w) :
  Ru P (Instr.sliceAt t (.pointer (some ⟨g,o,none⟩)) (some (.int .i64 x)) (some (.int .i64 y)) none) w K:=by
 subst ex ey;have hn:P.arrayLen t=n:=by simp[Program.arrayLen,hu]
 have he:P.elem t=e:=by simp[Program.elem,hu]
 have h2:(sizeOf (P.elem t)).run P w=.ok 1 w:=by rw[he];exact size_of_is hs w
 refine⟨_,_,?_,k⟩;rw[run_sliceAt_array_lh w t _ (by rw[hn,he];exact hu) .i64 .i64 l h (by omega) (by omega) (by rw[hn];omega),h2];simp only[Result.andThen_ok,Int.toNat_natCast,slicedAt,hn,if_neg (show ¬n=l by omega),of_add,Nat.mul_one]
section
variable{w:World}{m:Nat}{at_ ow:Nat->Nat}
def LsEnd(w:World)(l:List Nat)(v:Value)(w':World):Prop:=∃Y e,v=.slice Y l.length e/\Ls w' Y e l/\(∀x,x∈blk Y->w.heap.size<=x)/\Keep [] w w'
theorem mof_ok(r:MapAt w m at_ ow)(b:Nat)(hb:b<12)(hl:∀p,p<96->ow p<=25):Spec Tryz.prog 183 #[.pointer (some ⟨m,0,none⟩),.int .i64 b] w fun v w'=>∃u,v=.tuple #[u,errOf 0]/\LsEnd w (ofL ow b) u w':=by
 refine spec_of_wpE (T:=tt) tt_ok Tryz.func183 rfl (by decide +kernel) Tryz.ntmps183 (by simp) ?_;conv=>whnf
 refine Ca.args (args' := #[.int .i64 b,.int .i64 ((0:Nat):Int)]) rfl ?_;refine Ca.of (place_ok' w b 0 hb (by omega)) ?_;rintro _ _ ⟨rfl,rfl⟩;rw[if_pos (by omega)];conv=>whnf
 repeat ((first|refine Br.f ?_|refine Ar.la ?_|refine Ru.neq_nil0 ?_|refine CW.s ?_);conv=>whnf)
 refine Ru.arr_lh (l:=b*8) (h:=b*8+8) (by omega) (by omega) Tryz.underlying186 (by kernel_rfl) (by omega) (by omega) (by omega) ?_;conv=>whnf
 refine CW.loop (ι:=Nat×Option Addr×Nat) (fun i w'=>i.1<=8/\Ls w' i.2.1 i.2.2 (ofTo ow b i.1)/\(∀x,x∈blk i.2.1->w.heap.size<=x)/\Keep [] w w') (fun i=>[(8,.slice i.2.1 (ofTo ow b i.1).length i.2.2),(25,.slice (some ⟨m,0+25+b*8,none⟩) (b*8+8-b*8) (96-b*8)),(26,.int .i64 8),(27,.int .i64 i.1)]) (fun i=>8-i.1) (0,none,0) tt_ok ⟨by simp,Ly.nil _ _ _ _,(fun _ h=>by cases h),Keep.refl _ _⟩ ⟨rfl,rfl,(by rw[show b*8+8-b*8=8 by omega];rfl),rfl,trivial⟩ ?_;rintro⟨i,X,c⟩ wr ⟨hi,hX,hn,kr⟩;simp only at hi hX hn ⊢;by_cases hlt:i<8
 ·have hcell:=(MapAt.cow (Row.keep r kr (by simp)) (p:=8*b+i) (by omega));have hle:=hl (8*b+i) (by omega);have hd:ofTo ow b (i+1)=if ow (8*b+i)=0 then ofTo ow b i else ofTo ow b i++[ow (8*b+i)-1]:=rfl;have hlen:=ofTo_le ow b i;generalize ow (8*b+i)=x at *;by_cases h0:x=0
  ·rw[if_pos h0] at hd;conv=>whnf
   repeat ((first|(refine Ld.at (by omega) hcell ?_)|refine Ix.n ?_|refine Ar.la ?_|refine Br.y ?_|refine Br.ny ?_|refine CW.s ?_);conv=>whnf)
   rw[<-hd] at hX;exact⟨(i+1,X,c),⟨hlt,hX,hn,kr⟩,⟨by simp only[hd];rfl,rfl,rfl,vi (by simp only;omega),trivial⟩,by simp only;omega⟩
  ·rw[if_neg h0] at hd;conv=>whnf
   repeat ((first|(refine Ld.at (by omega) hcell ?_)|refine Ix.n ?_|refine Ar.la ?_|refine Br.y ?_|refine Br.nn ?_|refine CW.s ?_);conv=>whnf)
   refine Ru.of (build_i1 _ _) ?_;have ha:Rd (wr.alloc (.cells #[.int .i64 ((x:Int)-1)] 3)) (some ⟨wr.heap.size,0,none⟩) 1 (fun _=>.int .i64 ((x-1:Nat):Int)):=(rd_one (heap_alloc_new _ _)).congr (fun _ _=>vi (by omega));have ka:Keep [] wr (wr.alloc (.cells #[.int .i64 ((x:Int)-1)] 3)):=(Keep.refl _ _).alloc _;generalize wr.alloc _=wa at *;conv=>whnf
   refine Bu.push (hX.keep0 ka) (x-1) ha (by omega) (by omega) ?_;intro Y e w2 hY k2 hat;conv=>whnf
   repeat ((first|refine Ar.la ?_);conv=>whnf)
   rw[<-hd] at hY ⊢;refine⟨(i+1,Y,e),⟨hlt,hY,fun y hy=>?_,(kr.trans ka).then k2 (fun y hy=>.inr (hn y hy))⟩,⟨rfl,rfl,rfl,vi (by simp only;omega),trivial⟩,by simp only;omega⟩;rcases hat with h|h
   ·exact hn y (h ▸ hy)
   ·simp only at hy;rw[h] at hy;rw[List.mem_singleton.1 hy];have:=kr.size;have:=ka.size;simp only;omega
 ·obtain rfl:i=8:=by omega
  conv=>whnf
  repeat ((first|refine Br.f ?_|refine CW.s ?_);conv=>whnf)
  exact⟨rfl,_,rfl,X,c,rfl,hX,hn,kr⟩
theorem mlive_ok(r:MapAt w m at_ ow)(hl:∀o,o<25->at_ o<=96):Spec Tryz.prog 96 #[.pointer (some ⟨m,0,none⟩)] w fun v w'=>∃g,v=.slice (some ⟨g,0,none⟩) 12 12/\Row w' g 3 12 (fun b=>.int .i64 (lv at_ b:Nat))/\w.heap.size<=g/\Keep [] w w':=by
 refine spec_of_wpE (T:=tt) tt_ok Tryz.func96 rfl (by decide +kernel) Tryz.ntmps96 (by simp) ?_;conv=>whnf
 refine Ru.of (mk12_run w) ?_;have rg:Row (w.alloc (.cells (madeCells #[.int .i64 0] 12) 3)) w.heap.size 3 12 (fun b=>.int .i64 (lvTo at_ 0 b:Nat)):=Row.made _ _ _ _;have k1:Keep [] w (w.alloc (.cells (madeCells #[.int .i64 0] 12) 3)):=(Keep.refl _ _).alloc _;generalize hg:w.heap.size=g at *;have hgw:w.heap.size<=g:=by omega
 have hml:=r.lt;generalize w.alloc _=w1 at *;have r1:MapAt w1 m at_ ow:=Row.keep r k1 (by simp);have dmg:m≠g:=by omega
 conv=>whnf
 repeat ((first|refine CW.s ?_);conv=>whnf)
 refine Ru.ldaC r1 Tryz.underlying59 rfl size25 (by omega) (q:=fun j=>.int .i64 (at_ j:Nat)) (fun j hj=>by
  show mapF at_ ow (0+j)=_;unfold mapF;rw[Nat.zero_add,if_pos hj]) ?_
 conv=>whnf
 refine CW.loop (ι:=Nat) (fun i w'=>i<=25/\Row w' g 3 12 (fun b=>.int .i64 (lvTo at_ i b:Nat))/\Keep [g] w1 w') (fun i=>[(3,.slice (some ⟨g,0,none⟩) 12 12),(10,agg 25 (fun j=>.int .i64 (at_ j:Nat))),(11,.int .i64 i)]) (fun i=>25-i) 0 tt_ok ⟨by omega,rg,Keep.refl _ _⟩ ⟨rfl,rfl,rfl,trivial⟩ ?_;rintro i wr ⟨hi,ri,ki⟩;by_cases hlt:i<25
 ·have hd:∀b,lvTo at_ (i+1) b=lvTo at_ i b+(if at_ i≠0/\(at_ i-1)/8=b then 1 else 0):=fun b=>rfl;have hle:=hl i hlt;by_cases h0:at_ i=0
  ·conv=>whnf
   repeat ((first|(refine Ru.idx Tryz.underlying59 hlt (by kernel_rfl) ?_)|refine Ar.la ?_|refine Br.y ?_|refine Br.ny ?_|refine CW.s ?_);conv=>whnf)
   exact⟨i+1,⟨hlt,ri.congr (fun b _=>by rw[hd,if_neg (fun e=>e.1 h0),Nat.add_zero]),ki⟩,⟨rfl,rfl,vi (by omega),trivial⟩,by simp only;omega⟩
  ·have hb:(at_ i-1)/8<12:=by omega
   have hlv:=lvTo_le at_ i ((at_ i-1)/8);conv=>whnf
   repeat ((first|(refine Ru.idx Tryz.underlying59 hlt (by kernel_rfl) ?_)|(refine Ix.of ((at_ i-1)/8) (by omega) (by omega) ?_)|(refine Ld.rowAt ri ((at_ i-1)/8) (by omega) (by omega) ?_)|refine Ar.la ?_|refine Dv.q ?_|refine Br.y ?_|refine Br.nn ?_|refine CW.s ?_);conv=>whnf)
   refine Sd.rowAt ri ((at_ i-1)/8) (by omega) (by omega) rfl ?_;intro w2 r2 k2;conv=>whnf
   repeat ((first|refine Ar.la ?_);conv=>whnf)
   refine⟨i+1,⟨hlt,r2.congr (fun b _=>?_),ki.trans k2⟩,⟨rfl,rfl,vi (by omega),trivial⟩,by simp only;omega⟩;unfold put;rw[hd];by_cases e:b=(at_ i-1)/8
   ·subst e;rw[if_pos rfl,if_pos ⟨h0,rfl⟩];exact vi (by omega)
   ·rw[if_neg e,if_neg (fun h=>e h.2.symm),Nat.add_zero]
 ·obtain rfl:i=25:=by omega
  conv=>whnf
  repeat ((first|refine Br.f ?_|refine CW.s ?_);conv=>whnf)
  exact⟨rfl,g,rfl,ri,by omega,k1.then ki (fun x hx=>.inr (by rw[List.mem_singleton.1 hx];omega))⟩
theorem zmap_chk:zrun (fun _=>2) 121 (zcl 188).toList 0=true:=by kernel_rfl
theorem build_map0(w:World):(Instr.build 188 #[]).run Tryz.prog w=.ok (.agg (zcl 188)) w:=by kernel_rfl
theorem build_map(w:World):(Instr.build 188 #[]).run Tryz.prog w=.ok (agg 121 (mapF (fun _=>0) (fun _=>0))) w:=by
 rw[build_map0,zrun_arr zmap_chk];show Result.ok (agg 121 (fun j=>ofKind 2)) w=_;rw[agg_congr (g:=mapF (fun _=>0) (fun _=>0)) (fun j hj=>by unfold mapF;split<;>rfl)]
theorem mapnew_ok:Spec Tryz.prog 128 #[] w fun v w'=>∃g,v=.pointer (some ⟨g,0,none⟩)/\MapAt w' g (fun _=>0) (fun _=>0)/\w.heap.size<=g/\Keep [] w w':=by
 refine spec_of_wpE (T:=tt) tt_ok Tryz.func128 rfl (by decide +kernel) Tryz.ntmps128 (by simp) ?_;conv=>whnf
 refine Ru.of (build_map w) ?_;conv=>whnf
 refine Ru.boxa ?_;intro g w1 hg hs1 r1 k1;conv=>whnf
 exact⟨rfl,g,rfl,r1,by omega,k1⟩
theorem zpool_chk:zrun (fun _=>2) 13 (zcl 220).toList 0=true:=by kernel_rfl
theorem build_pool0(w:World):(Instr.build 220 #[]).run Tryz.prog w=.ok (.agg (zcl 220)) w:=by kernel_rfl
theorem build_pool(w:World):(Instr.build 220 #[]).run Tryz.prog w=.ok (agg 13 (poolF (fun _=>0) 0)) w:=by
 rw[build_pool0,zrun_arr zpool_chk];show Result.ok (agg 13 (fun j=>ofKind 2)) w=_;rw[agg_congr (g:=poolF (fun _=>0) 0) (fun j hj=>by unfold poolF;split<;>rfl)]
theorem poolnew_ok:Spec Tryz.prog 127 #[] w fun v w'=>∃g,v=.pointer (some ⟨g,0,none⟩)/\PoolAt w' g (fun _=>0) 0/\w.heap.size<=g/\Keep [] w w':=by
 refine spec_of_wpE (T:=tt) tt_ok Tryz.func127 rfl (by decide +kernel) Tryz.ntmps127 (by simp) ?_;conv=>whnf
 refine Ru.of (build_pool w) ?_;conv=>whnf
 refine Ru.boxa ?_;intro g w1 hg hs1 r1 k1;conv=>whnf
 exact⟨rfl,g,rfl,r1,by omega,k1⟩
end
structure Cp.told(p:Cp):Prop where
 next:0<=p.next/\p.next<=1099511627775
 cur:0<=p.cur/\p.cur<=95
 fl:∀j,j<24->0<=p.fl j/\p.fl j<=1099511627775
 rd:∀j,j<12->0<=p.reads j/\p.reads j<=65535
 sc:∀j,j<12->0<=p.scores j/\p.scores j<=255
def badTo(p:Cp):Nat->Nat
 |0=>0
 |k+1=>badTo p k+(if p.bad k then 2^k else 0)
def badN(p:Cp):Nat:=badTo p 12
theorem badTo_lt(p:Cp):∀k,badTo p k<2^k
 |0=>(by decide:0<2^0)
 | k+1=>by
  have:=badTo_lt p k;unfold badTo;rw[Nat.pow_succ];split<;>omega
def ptF(p:Cp)(j:Nat):Int :=
 if j<120 then byteOf (p.fl (j/5)) (j%5) else if j<125 then byteOf p.next (j-120) else if j<127 then byteOf (badN p:Nat) (j-125) else if j<128 then byteOf p.cur 0
 else if j<152 then byteOf (p.reads ((j-128)/2)) ((j-128)%2) else if j<164 then byteOf (p.scores (j-152)) 0 else 0
theorem ptF_bd(p:Cp)(j:Nat):0<=ptF p j/\ptF p j<=255:=by
 unfold ptF;split
 ·exact byteOf_bd _ _
 ·split
  ·exact byteOf_bd _ _
  ·split
   ·exact byteOf_bd _ _
   ·split
    ·exact byteOf_bd _ _
    ·split
     ·exact byteOf_bd _ _
     ·split
      ·exact byteOf_bd _ _
      ·omega
theorem within_ok(w:World)(v m:Int):Spec Tryz.prog 163 #[.int .i64 v,.int .i64 m] w fun u w'=>u=.bool (decide (0<=v/\v<=m))/\w=w':=by
 refine spec_of_wpE (T:=tt) tt_ok Tryz.func163 rfl (by decide +kernel) Tryz.ntmps163 (by simp) ?_;by_cases h:0<=v
 ·conv=>whnf
  repeat ((first|refine Br.t ?_|refine Pk.t ?_|refine Br.y ?_);conv=>whnf)
  exact⟨rfl,vb (by simp[h]),rfl⟩
 ·conv=>whnf
  repeat ((first|refine Br.f ?_|refine Pk.f ?_|refine Br.n ?_);conv=>whnf)
  exact⟨rfl,vb (by simp[h]),rfl⟩
theorem within_yes(w:World){v m:Int}(h:0<=v/\v<=m):Spec Tryz.prog 163 #[.int .i64 v,.int .i64 m] w fun u w'=>u=.bool true/\w=w':=by
 have:=within_ok w v m
 rwa [decide_eq_true h] at this
theorem Bu.push1{w:World}{t ty e:TypeId}{i:TypeInfo}{cs:Array Bool}{K:Value->World->Prop}(ht:Tryz.prog.underlying t=some (.slice e))(hi:Tryz.prog.info? e=some i)(h1:i.size=1){q n c d:Nat}{F:Nat->Value}(r:Row w q e c F)(hn:n<c)
  {A:Option Addr} {u:Value} (ha:Rd w A 1 (fun _=>u)) (hu:u.oneCell'=true) (k:∀w',Row w' q e c (put F n u)->Keep [q] w w'->K (.slice (some ⟨q,0,none⟩) (n+1) c) w') :
  Bu Tryz.prog .append #[t,t] ty cs #[.slice (some ⟨q,0,none⟩) n c,.slice A 1 d] w K:=by
 obtain⟨b,o,rfl,hc⟩:=ha (by omega);have hcur:w.heap[q]?=some (.cells ((Array.range c).map F) e (0,0)):=r
 have hrun:=run_append_room (P:=Tryz.prog) w t ty e i ht hi q n c _ hcur ⟨b,o,none⟩ 1 d [u] (by simp[h1]) (fun j v hv=>by
  have hj:j=0:=by
   have:=(List.getElem?_eq_some_iff.1 hv).1;simpa using this
  subst hj;injection hv with hv;subst hv;rw[of_add rfl];exact hc 0 (by omega)) (fun v hv=>by rw[List.mem_singleton.1 hv];exact hu) (by omega) (by simp[h1];omega)
 refine⟨_,w.setRow q (((Array.range c).map F).toList.take (n*i.size)++[u]++((Array.range c).map F).toList.drop (n*i.size+[u].length)).toArray,by simp only[builtin,Sem.run_bind,hrun];rfl,k _ ?_ ⟨rfl,rfl,rfl,by simp,fun k _ hk=>setRow_other w q k _ (fun e=>hk (by rw[e];exact List.mem_singleton.2 rfl))⟩⟩;have h2:=setRow_heap w q _ (((Array.range c).map F).toList.take (n*i.size)++[u]++((Array.range c).map F).toList.drop (n*i.size+[u].length)).toArray e _ hcur;unfold Row;rw[h2];congr 2;apply Array.ext_getElem?;intro j;rw[h1,Nat.mul_one];by_cases hj:j<c
 ·rw[List.getElem?_toArray];unfold put;by_cases hjn:j<n
  ·rw[List.append_assoc,List.getElem?_append_left (by simp;omega),List.getElem?_take,if_pos hjn];simp[hj,show j≠n by omega]
  ·by_cases hje:j=n
   ·subst hje;rw[List.append_assoc,List.getElem?_append_right (by simp;omega)];simp[hj,Nat.min_eq_left (Nat.le_of_lt hj)]
   ·rw[List.getElem?_append_right (by simp;omega)];simp only[List.length_append,List.length_take,Array.length_toList,Array.size_map,Array.size_range,List.length_singleton,Nat.min_eq_left (Nat.le_of_lt hn),List.getElem?_drop];rw[show n+1+(j-(n+1))=j by omega];simp[hj,hje]
 ·rw[Array.getElem?_eq_none (by simp;omega),Array.getElem?_eq_none (by simp;omega)]
structure PWr(w:World)(g x n c:Nat)(f:Nat->Int):Prop where
 row:Row w g 196 1 (fun _=>.slice (some ⟨x,0,none⟩) n c)
 cells:Row w x 5 c (fun j=>.int .u8 (if j<n then f j else 0))
theorem PWr.keep{w w':World}{g x n c:Nat}{f:Nat->Int}{S:List Nat}(h:PWr w g x n c f)(k:Keep S w w')(hg:g∉S)(hX:x∉S):PWr w' g x n c f:=⟨h.row.keep k hg,h.cells.keep k hX⟩
def PWrEnd(w:World)(g x m c:Nat)(f:Nat->Int)(v:Value)(w':World):Prop:=v=.tuple #[]/\PWr w' g x m c f/\Keep [g,x] w w'
theorem Sh.shrB{v:Int}{i:Nat}{K:Value->Prop}(hi:i<=8)(k:K (.int .i64 (v/256^i))):Sh .shr .i64 v (8*(i:Int)) K:=by
 refine⟨by omega,?_⟩;have e:min (8*(i:Int)).toNat IntKind.i64.bits=8*i:=by simp[IntKind.bits];omega
 have e2:v.fdiv (2^(8*i))=v/256^i:=by
  rw[Int.fdiv_eq_ediv_of_nonneg _ (Int.le_of_lt (Int.pow_pos (by decide))),Int.pow_mul];rfl
 simp only[e,e2];exact k
theorem c1{i:Nat}(h:i<1):i=0:=by omega
theorem pput_ok(w:World)(g x n c:Nat)(f:Nat->Int)(h:PWr w g x n c f)(v:Int)(m:Nat)(hv:0<=v/\v<=9223372036854775807)(hm:m<=5)(hn:n+m<=c)(hb:∀j,j<m->byteOf v j=f (n+j)) :
  Spec Tryz.prog 113 #[.pointer (some ⟨g,0,none⟩),.int .i64 v,.int .i64 m] w (PWrEnd w g x (n+m) c f):=by
 obtain⟨i0,hi,hz0,hz1,hz2⟩:=info_parts byte_info;refine spec_of_wpE (T:=tt) tt_ok Tryz.func113 rfl (by decide +kernel) Tryz.ntmps113 (by simp) ?_;conv=>whnf
 refine CW.loop (ι:=Nat) (fun i w'=>i<=m/\PWr w' g x (n+i) c f/\Keep [g,x] w w') (fun i=>[(0,.pointer (some ⟨g,0,none⟩)),(1,.int .i64 v),(7,.int .i64 m),(8,.int .i64 i)]) (fun i=>m-i) 0 tt_ok ⟨by simp,h,Keep.refl _ _⟩ ⟨rfl,rfl,rfl,rfl,trivial⟩ ?_;rintro i wr ⟨hi2,hw,kr⟩;by_cases hlt:i<m
 ·have hfi:=hb i hlt;conv=>whnf
  repeat ((first|refine Br.y ?_|refine CW.s ?_);conv=>whnf)
  refine CW.held (fun _=>True) [] (.take 0 (.take 1 (.take 2 (.take 3 (.take 5 (.take 6 (.take 7 (.take 8 (.take 9 (.two 4 (.one 10 (.one 11 (.take 12 (.take 13 (.one 14 (.done)))))) 10 (.one 4 (.one 11 (.take 12 (.take 13 (.one 14 (.done)))))))))))))))) tt_ok (by kernel_rfl) (by kernel_rfl) (by kernel_rfl) trivial ?_;have k1:=kr.drewN 1;have hw1:PWr (wr.drewN 1) g x (n+i) c f:=hw.keep ((Keep.refl [] _).drewN 1) (by simp) (by simp);generalize wr.drewN 1=w1 at *;have ha:Rd (w1.alloc (.cells #[.int .u8 (v/256^i%256)] 5)) (some ⟨w1.heap.size,0,none⟩) 1 (fun _=>.int .u8 (f (n+i))):=(rd_one (heap_alloc_new _ _)).congr (fun _ _=>vi hfi);have ka:Keep [] w1 (w1.alloc (.cells #[.int .u8 (v/256^i%256)] 5)):=(Keep.refl _ _).alloc _;have hw2:=hw1.keep ka (by simp) (by simp);conv=>whnf
  repeat' ((first|(refine And.intro ?_ ?_)|(refine Ld.row hw1.row (by decide) ?_)|(refine Ld.row hw2.row (by decide) ?_)|(refine Sh.shrB (by omega) ?_)|(refine Ar.u8m ?_)|(refine Ru.of (build_b1 _ _) ?_)|refine HS.t ?_|refine Ar.la ?_)<;>conv=>whnf)
  all_goals
   generalize w1.alloc _=w2 at *;show Bu _ _ _ _ _ #[.slice (some ⟨x,0,none⟩) (n+i) c,_] _ _;refine Bu.push1 Tryz.underlying37 hi hz1 hw2.cells (by omega) ha rfl ?_;intro w3 r3 k3;have hgx:g≠x:=hw2.row.ne_ hw2.cells (by decide);have r3':=hw2.row.keep k3 (by simpa using hgx);conv=>whnf
   repeat ((first|refine HS.t ?_);conv=>whnf)
   refine Sd.rowAt r3' 0 (by omega) (by omega) rfl ?_;intro w4 r4 k4;have hz4:=r3.keep k4 (by simpa using hgx.symm);conv=>whnf
   repeat ((first|refine HS.t ?_|refine Ar.la ?_);conv=>whnf)
   refine⟨i+1,⟨hlt,⟨r4.congr (fun j hj=>by rw[c1 hj];rfl),hz4.congr (fun j hj=>?_)⟩,?_⟩,⟨rfl,rfl,rfl,vi (by omega),trivial⟩,by simp only;omega⟩
   ·unfold put;simp only;by_cases hj2:j=n+i
    ·rw[if_pos hj2,if_pos (by omega),hj2]
    ·rw[if_neg hj2];by_cases hj3:j<n+i
     ·rw[if_pos hj3,if_pos (by omega)]
     ·rw[if_neg hj3,if_neg (by omega)]
   ·exact((k1.trans (ka.mono (by simp))).trans (k3.mono (by simp))).trans (k4.mono (by simp))
 ·obtain rfl:i=m:=by omega
  conv=>whnf
  repeat ((first|refine Br.n ?_|refine CW.s ?_);conv=>whnf)
  exact⟨rfl,rfl,hw,kr⟩
theorem Cp.cell_cur(c:Cp):c.cell 37=.int .i64 c.cur:=rfl
theorem Cp.cell_rd(c:Cp){j:Nat}(h:j<12):c.cell (38+j)=.int .i64 (c.reads j):=by
 unfold Cp.cell;rw[if_neg (by omega),if_neg (by omega),if_neg (by omega),if_neg (by omega),if_pos (by omega),show 38+j-38=j by omega]
theorem Cp.cell_sc(c:Cp){j:Nat}(h:j<12):c.cell (50+j)=.int .i64 (c.scores j):=by
 unfold Cp.cell;rw[if_neg (by omega),if_neg (by omega),if_neg (by omega),if_neg (by omega),if_neg (by omega),show 50+j-50=j by omega]
theorem arr12_size:(Tryz.prog.info? 70).map (·.size)=some 12:=by kernel_rfl
theorem told_ok(w:World)(p:Cp)(hp:p.told):Spec Tryz.prog 112 #[agg 62 p.cell] w fun v w'=>v=.bool true/\Keep [] w w':=by
 obtain⟨h1,h2,h3,h4,h5⟩:=hp;refine spec_of_wpE (T:=tt) tt_ok Tryz.func112 rfl (by decide +kernel) Tryz.ntmps112 (by simp) ?_;conv=>whnf
 refine Ru.boxa ?_;intro g w1 hg hs1 r k1;conv=>whnf
 repeat ((first|(refine Ld.rowAt r 24 (by omega) (by omega) ?_));conv=>whnf)
 refine Ca.of (within_yes w1 h1) ?_;rintro _ _ ⟨rfl,rfl⟩;conv=>whnf
 repeat ((first|(refine Ld.rowAt r 37 (by omega) (by omega) ?_)|refine Br.t ?_);conv=>whnf)
 refine Ca.of (within_yes w1 h2) ?_;rintro _ _ ⟨rfl,rfl⟩;conv=>whnf
 repeat ((first|refine Pk.t ?_|refine CW.s ?_);conv=>whnf)
 refine Ru.ldaC (q:=fun j=>.int .i64 (p.fl j)) r Tryz.underlying114 rfl arr24_size (by omega) (fun j hj=>by rw[show 0+0+j=j from by omega];exact p.cell_fl hj) ?_;conv=>whnf
 refine CW.loop (ι:=Nat) (fun i w'=>i<=24/\w'=w1) (fun i=>[(1,.pointer (some ⟨g,0,none⟩)),(3,.bool true),(16,agg 24 (fun j=>.int .i64 (p.fl j))),(17,.int .i64 i)]) (fun i=>24-i) 0 tt_ok ⟨by omega,rfl⟩ ⟨rfl,rfl,rfl,rfl,trivial⟩ ?_;rintro k w' ⟨hk,rfl⟩;by_cases hlt:k<24
 ·have hfl:=h3 k hlt;conv=>whnf
  repeat ((first|(refine Ru.idx Tryz.underlying114 hlt cell_i64 ?_)|refine Br.t ?_|refine Br.y ?_|refine CW.s ?_);conv=>whnf)
  refine Ca.of (within_yes w' hfl) ?_;rintro _ _ ⟨rfl,rfl⟩;conv=>whnf
  repeat ((first|refine Pk.t ?_|refine Ar.la ?_);conv=>whnf)
  exact⟨k+1,⟨hlt,rfl⟩,⟨rfl,rfl,rfl,rfl,trivial⟩,by simp only;omega⟩
 ·obtain rfl:k=24:=by omega
  conv=>whnf
  repeat ((first|refine Br.f ?_|refine CW.s ?_);conv=>whnf)
  refine CW.loop (ι:=Nat) (fun i w2=>i<=12/\w2=w') (fun i=>[(1,.pointer (some ⟨g,0,none⟩)),(3,.bool true),(26,.int .i64 i)]) (fun i=>12-i) 0 tt_ok ⟨by omega,rfl⟩ ⟨rfl,rfl,rfl,trivial⟩ ?_;rintro k w2 ⟨hk,rfl⟩;by_cases hlt:k<12
  ·conv=>whnf
   repeat ((first|(refine Ld.rowAt r (38+k) (by omega) (by omega) ?_)|refine Br.t ?_|refine Ix.n ?_|refine Br.y ?_|refine CW.s ?_);conv=>whnf)
   rw[p.cell_rd hlt];refine Ca.of (within_yes w2 (h4 k hlt)) ?_;rintro _ _ ⟨rfl,rfl⟩;conv=>whnf
   repeat ((first|(refine Ld.rowAt r (50+k) (by omega) (by omega) ?_)|refine Br.t ?_|refine Pk.t ?_|refine Ix.n ?_);conv=>whnf)
   rw[p.cell_sc hlt];refine Ca.of (within_yes w2 (h5 k hlt)) ?_;rintro _ _ ⟨rfl,rfl⟩;conv=>whnf
   repeat ((first|refine Pk.t ?_|refine Ar.la ?_);conv=>whnf)
   exact⟨k+1,⟨hlt,rfl⟩,⟨rfl,rfl,rfl,trivial⟩,by simp only;omega⟩
  ·obtain rfl:k=12:=by omega
   conv=>whnf
   repeat ((first|refine Br.f ?_|refine CW.s ?_);conv=>whnf)
   exact⟨rfl,rfl,k1⟩
theorem Cp.cell_one(c:Cp)(j:Nat):(c.cell j).oneCell'=true:=by
 unfold Cp.cell;split
 ·rfl
 ·split
  ·rfl
  ·split
   ·rfl
   ·split
    ·rfl
    ·split<;>rfl
theorem mk174_run(w:World):(Instr.makeSlice 37 (.int .i64 0) (.int .i64 174)).run Tryz.prog w=.ok (.slice (some ⟨w.heap.size,0,none⟩) 0 174) (w.alloc (.cells (madeCells #[.int .u8 0] 174) 5)):=by kernel_rfl
theorem agg_one(v:Value):Value.agg #[v]=agg 1 (fun _=>v):=by
 unfold agg;simp[Array.range,Array.ofFn_succ]
theorem build_pwr(A:Option Addr)(n c:Nat)(w:World):(Instr.build 196 #[(0,.slice A n c)]).run Tryz.prog w=.ok (.agg #[.slice A n c]) w:=by kernel_rfl
theorem size_cp:(Tryz.prog.info? 116).map (·.size)=some 62:=by kernel_rfl
theorem ptF_fl(p:Cp){k j:Nat}(hk:k<24)(hj:j<5):byteOf (p.fl k) j=ptF p (5*k+j):=by
 unfold ptF;rw[if_pos (by omega),show(5*k+j)/5=k by omega,show(5*k+j)%5=j by omega]
theorem ptF_next(p:Cp){j:Nat}(hj:j<5):byteOf p.next j=ptF p (120+j):=by
 unfold ptF;rw[if_neg (by omega),if_pos (by omega),show 120+j-120=j by omega]
theorem ptF_bad(p:Cp){j:Nat}(hj:j<2):byteOf (badN p:Nat) j=ptF p (125+j):=by
 unfold ptF;rw[if_neg (by omega),if_neg (by omega),if_pos (by omega),show 125+j-125=j by omega]
theorem ptF_cur(p:Cp){j:Nat}(hj:j<1):byteOf p.cur j=ptF p (127+j):=by
 obtain rfl:j=0:=by omega
 rfl
theorem ptF_rd(p:Cp){k j:Nat}(hk:k<12)(hj:j<2):byteOf (p.reads k) j=ptF p (128+2*k+j):=by
 unfold ptF;rw[if_neg (by omega),if_neg (by omega),if_neg (by omega),if_neg (by omega),if_pos (by omega),show(128+2*k+j-128)/2=k by omega,show(128+2*k+j-128)%2=j by omega]
theorem ptF_sc(p:Cp){k j:Nat}(hk:k<12)(hj:j<1):byteOf (p.scores k) j=ptF p (152+k+j):=by
 obtain rfl:j=0:=by omega
 unfold ptF;rw[if_neg (by omega),if_neg (by omega),if_neg (by omega),if_neg (by omega),if_neg (by omega),if_pos (by omega),show 152+k+0-152=k by omega]
theorem badTo_step(p:Cp){k:Nat}:badTo p (k+1)=badTo p k+(if p.bad k then 2^k else 0):=rfl
theorem bitv_or{a b:Nat}(ha:a<2^63)(hb:b<2^63):bitv .or .i64 (a:Int) (b:Int)=((a ||| b:Nat):Int):=by
 show IntKind.i64.wrap (((BitVec.ofInt 64 (a:Int) ||| BitVec.ofInt 64 (b:Int)).toNat:Nat):Int)=_;rw[BitVec.toNat_or,bv64 ha,bv64 hb,i64_nat (Nat.or_lt_two_pow ha hb)]
theorem or_bit{a k:Nat}(h:a<2^k):a ||| 2^k=a+2^k:=by
 have:=Nat.two_pow_add_eq_or_of_lt h 1;rw[Nat.mul_one] at this;rw[Nat.or_comm, <-this,Nat.add_comm]
theorem pwrite_ok(w:World)(p:Cp)(hp:p.told):Spec Tryz.prog 66 #[agg 62 p.cell] w fun v w'=>∃x,w.heap.size<=x/\v=.tuple #[.slice (some ⟨x,0,none⟩) 174 174,errOf 0]/\Row w' x 5 174 (fun j=>.int .u8 (ptF p j))/\Keep [] w w':=by
 obtain⟨h1,h2,h3,h4,h5⟩:=hp;refine spec_of_wpE (T:=tt) tt_ok Tryz.func66 rfl (by decide +kernel) Tryz.ntmps66 (by simp) ?_;conv=>whnf
 refine Ru.boxa ?_;intro g w1 hg hs1 r k1;conv=>whnf
 repeat ((first|refine CW.s ?_);conv=>whnf)
 refine Ru.lda r Tryz.underlying116 rfl size_cp (by omega) ?_;rw[agg_congr (fun j _=>by rw[Nat.zero_add]:∀j,j<62->p.cell (0+j)=p.cell j)];conv=>whnf
 refine Ca.of (told_ok w1 p ⟨h1,h2,h3,h4,h5⟩) ?_;rintro _ w2 ⟨rfl,k2⟩;have r2:=r.keep k2 (by simp);conv=>whnf
 repeat ((first|refine Br.f ?_);conv=>whnf)
 refine Ru.of (mk174_run w2) ?_;have rx:=Row.made w2 5 (.int .u8 0) 174;have k3:Keep [] w2 (w2.alloc (.cells (madeCells #[.int .u8 0] 174) 5)):=(Keep.refl _ _).alloc _;have hx:w.heap.size<=w2.heap.size:=by
  have:=k1.size;have:=k2.size;omega
 have hs3:(w2.alloc (.cells (madeCells #[.int .u8 0] 174) 5)).heap.size=w2.heap.size+1:=by simp
 have hrg:=r2.lt;generalize w2.heap.size=x at *;generalize w2.alloc _=w3 at *;have r3:=r2.keep k3 (by simp);conv=>whnf
 refine Ru.of (build_pwr _ _ _ _) ?_;conv=>whnf
 rw[agg_one];refine Ru.boxa ?_;intro y w4 hy hs4 ry k4;have r4:=r3.keep k4 (by simp);have W4:PWr w4 y x 0 174 (ptF p):=⟨ry,(rx.keep k4 (by simp)).congr (fun j _=>by rw[if_neg (by omega)])⟩;have kk:Keep [] w w4:=((k1.trans k2).trans k3).trans k4;have gy:g≠y:=by omega
 have gx:g≠x:=by omega
 have yw:w.heap.size<=y:=by omega
 clear rx ry r r2 r3 k1 k2 k3 k4 hs1 hs3 hs4 hrg hg hy w1 w2 w3;conv=>whnf
 repeat ((first|refine CW.s ?_);conv=>whnf)
 refine Ru.ldaC (q:=fun j=>.int .i64 (p.fl j)) r4 Tryz.underlying114 rfl arr24_size (by omega) (fun j hj=>by rw[show 0+0+j=j from by omega];exact p.cell_fl hj) ?_;conv=>whnf
 have put:∀ {wr wr':World},Keep [] w wr->Keep [y,x] wr wr'->Keep [] w wr':=fun h k=>h.then k (fun z hz=>by
  simp only[List.mem_cons,List.not_mem_nil,or_false] at hz;rcases hz with rfl|rfl<;>exact .inr (by assumption))
 refine CW.loop (ι:=Nat) (fun i wr=>i<=24/\PWr wr y x (5*i) 174 (ptF p)/\Row wr g 116 62 p.cell/\Keep [] w wr) (fun i=>[(1,.pointer (some ⟨g,0,none⟩)),(4,.pointer (some ⟨y,0,none⟩)),(22,agg 24 (fun j=>.int .i64 (p.fl j))),(23,.int .i64 i)]) (fun i=>24-i) 0 tt_ok ⟨by omega,W4,r4,kk⟩ ⟨rfl,rfl,rfl,rfl,trivial⟩ ?_;clear W4 r4 kk w4;rintro k wr ⟨hk,W,r,kk⟩;by_cases hlt:k<24
 ·have hfl:=h3 k hlt;conv=>whnf
  repeat ((first|(refine Ru.idx Tryz.underlying114 hlt cell_i64 ?_)|refine Br.y ?_|refine CW.s ?_);conv=>whnf)
  refine Ca.of (pput_ok wr y x (5*k) 174 (ptF p) W (p.fl k) 5 (by omega) (by omega) (by omega) (fun j hj=>ptF_fl p hlt hj)) ?_;rintro _ w2 ⟨rfl,W2,k2⟩;conv=>whnf
  repeat ((first|refine Ar.la ?_);conv=>whnf)
  exact⟨k+1,⟨hlt,W2,r.keep k2 (by simp[gy,gx]),put kk k2⟩,⟨rfl,rfl,rfl,rfl,trivial⟩,by simp only;omega⟩
 obtain rfl:k=24:=by omega
 clear hlt hk;conv=>whnf
 repeat ((first|(refine Ld.rowAt r 24 (by omega) (by omega) ?_)|refine Br.f ?_|refine CW.s ?_);conv=>whnf)
 refine Ca.of (pput_ok wr y x (5*24) 174 (ptF p) W p.next 5 (by omega) (by omega) (by omega) (fun j hj=>ptF_next p hj)) ?_;rintro _ w2 ⟨rfl,W2,k2⟩;have r2:=r.keep k2 (by simp[gy,gx]);have kk2:=put kk k2;clear W r kk k2 wr;conv=>whnf
 repeat ((first|refine CW.s ?_);conv=>whnf)
 refine Ru.ldaC (q:=fun j=>.bool (p.bad j)) r2 Tryz.underlying63 rfl (by kernel_rfl:(Tryz.prog.info? 63).map (·.size)=some 12) (by omega) (fun j hj=>by rw[show 0+25+j=25+j from by omega];exact p.cell_bad hj) ?_;conv=>whnf
 refine CW.loop (ι:=Nat) (fun i w'=>i<=12/\w'=w2) (fun i=>[(1,.pointer (some ⟨g,0,none⟩)),(4,.pointer (some ⟨y,0,none⟩)),(7,.int .i64 (badTo p i:Nat)),(35,agg 12 (fun j=>.bool (p.bad j))),(36,.int .i64 i)]) (fun i=>12-i) 0 tt_ok ⟨by omega,rfl⟩ ⟨rfl,rfl,rfl,rfl,rfl,trivial⟩ ?_;rintro k wr ⟨hk,rfl⟩;by_cases hlt:k<12
 ·have hb:=badTo_lt p k;have hst:=badTo_step p (k:=k);by_cases hbad:p.bad k=true
  ·rw[if_pos hbad] at hst;conv=>whnf
   repeat ((first|(refine Ru.idx Tryz.underlying63 hlt (by kernel_rfl) ?_)|(refine Br.is hbad ?_)|refine Br.y ?_|refine CW.s ?_);conv=>whnf)
   have hpw:(1 <<< k:Nat)=2^k:=by rw[Nat.shiftLeft_eq,Nat.one_mul]
   have hp12:2^k<=2^12:=Nat.pow_le_pow_right (by omega) (by omega);refine Sh.shl64 (a:=1) (by rw[hpw];omega) (by omega) ?_;rw[hpw];conv=>whnf
   repeat ((first|refine Ar.la ?_);conv=>whnf)
   rw[bitv_or (by omega) (by omega)];exact⟨k+1,⟨hlt,rfl⟩,⟨rfl,rfl,vi (by rw[hst,or_bit hb]),rfl,rfl,trivial⟩,by simp only;omega⟩
  ·rw[if_neg hbad] at hst;have hbad':p.bad k=false:=by simpa using hbad
   conv=>whnf
   repeat ((first|(refine Ru.idx Tryz.underlying63 hlt (by kernel_rfl) ?_)|(refine Br.isnt hbad' ?_)|refine Ar.la ?_|refine Br.y ?_|refine CW.s ?_);conv=>whnf)
   exact⟨k+1,⟨hlt,rfl⟩,⟨rfl,rfl,vi (by rw[hst];rfl),rfl,rfl,trivial⟩,by simp only;omega⟩
 obtain rfl:k=12:=by omega
 clear hlt hk;have hbn:badTo p 12<2^12:=badTo_lt p 12;conv=>whnf
 repeat ((first|refine Br.f ?_|refine CW.s ?_);conv=>whnf)
 refine Ca.of (pput_ok wr y x 125 174 (ptF p) W2 (badTo p 12:Nat) 2 (by omega) (by omega) (by omega) (fun j hj=>ptF_bad p hj)) ?_;rintro _ w3 ⟨rfl,W3,k3⟩;have r3:=r2.keep k3 (by simp[gy,gx]);have kk3:=put kk2 k3;clear W2 r2 kk2 k3 wr;conv=>whnf
 repeat ((first|(refine Ld.rowAt r3 37 (by omega) (by omega) ?_));conv=>whnf)
 refine Ca.of (pput_ok w3 y x 127 174 (ptF p) W3 p.cur 1 (by omega) (by omega) (by omega) (fun j hj=>ptF_cur p hj)) ?_;rintro _ w4 ⟨rfl,W4,k4⟩;have r4:=r3.keep k4 (by simp[gy,gx]);have kk4:=put kk3 k4;clear W3 r3 kk3 k4 w3;conv=>whnf
 repeat ((first|refine CW.s ?_);conv=>whnf)
 refine Ru.ldaC (q:=fun j=>.int .i64 (p.reads j)) r4 Tryz.underlying70 rfl arr12_size (by omega) (fun j hj=>by rw[show 0+38+j=38+j from by omega];exact p.cell_rd hj) ?_;conv=>whnf
 refine CW.loop (ι:=Nat) (fun i wr=>i<=12/\PWr wr y x (128+2*i) 174 (ptF p)/\Row wr g 116 62 p.cell/\Keep [] w wr) (fun i=>[(1,.pointer (some ⟨g,0,none⟩)),(4,.pointer (some ⟨y,0,none⟩)),(54,agg 12 (fun j=>.int .i64 (p.reads j))),(55,.int .i64 i)]) (fun i=>12-i) 0 tt_ok ⟨by omega,W4,r4,kk4⟩ ⟨rfl,rfl,rfl,rfl,trivial⟩ ?_;clear W4 r4 kk4 w4;rintro k wr ⟨hk,W,r,kk⟩;by_cases hlt:k<12
 ·have hfl:=h4 k hlt;conv=>whnf
  repeat ((first|(refine Ru.idx Tryz.underlying70 hlt (by kernel_rfl) ?_)|refine Br.y ?_|refine CW.s ?_);conv=>whnf)
  refine Ca.of (pput_ok wr y x (128+2*k) 174 (ptF p) W (p.reads k) 2 (by omega) (by omega) (by omega) (fun j hj=>ptF_rd p hlt hj)) ?_;rintro _ w2 ⟨rfl,W2,k2⟩;conv=>whnf
  repeat ((first|refine Ar.la ?_);conv=>whnf)
  exact⟨k+1,⟨hlt,W2,r.keep k2 (by simp[gy,gx]),put kk k2⟩,⟨rfl,rfl,rfl,rfl,trivial⟩,by simp only;omega⟩
 obtain rfl:k=12:=by omega
 clear hlt hk;conv=>whnf
 repeat ((first|refine Br.f ?_|refine CW.s ?_);conv=>whnf)
 refine Ru.ldaC (q:=fun j=>.int .i64 (p.scores j)) r Tryz.underlying70 rfl arr12_size (by omega) (fun j hj=>by rw[show 0+50+j=50+j from by omega];exact p.cell_sc hj) ?_;conv=>whnf
 refine CW.loop (ι:=Nat) (fun i wr=>i<=12/\PWr wr y x (152+i) 174 (ptF p)/\Keep [] w wr) (fun i=>[(4,.pointer (some ⟨y,0,none⟩)),(63,agg 12 (fun j=>.int .i64 (p.scores j))),(64,.int .i64 i)]) (fun i=>12-i) 0 tt_ok ⟨by omega,W,kk⟩ ⟨rfl,rfl,rfl,trivial⟩ ?_;clear W r kk wr;rintro k wr ⟨hk,W,kk⟩;by_cases hlt:k<12
 ·have hfl:=h5 k hlt;conv=>whnf
  repeat ((first|(refine Ru.idx Tryz.underlying70 hlt (by kernel_rfl) ?_)|refine Br.y ?_|refine CW.s ?_);conv=>whnf)
  refine Ca.of (pput_ok wr y x (152+k) 174 (ptF p) W (p.scores k) 1 (by omega) (by omega) (by omega) (fun j hj=>ptF_sc p hlt hj)) ?_;rintro _ w2 ⟨rfl,W2,k2⟩;conv=>whnf
  repeat ((first|refine Ar.la ?_);conv=>whnf)
  exact⟨k+1,⟨hlt,W2,put kk k2⟩,⟨rfl,rfl,rfl,trivial⟩,by simp only;omega⟩
 obtain rfl:k=12:=by omega
 clear hlt hk;conv=>whnf
 repeat ((first|(refine Ld.row W.row (by omega) ?_)|refine Br.f ?_|refine CW.s ?_);conv=>whnf)
 refine Ru.sl_h Tryz.underlying37 byte_szI (h:=174) (by omega) ?_;conv=>whnf
 refine⟨rfl,x,hx,rfl,W.cells.congr (fun j hj=>?_),kk⟩;by_cases h:j<152+12
 ·rw[if_pos h]
 ·rw[if_neg h];refine vi ?_;unfold ptF;rw[if_neg (by omega),if_neg (by omega),if_neg (by omega),if_neg (by omega),if_neg (by omega),if_neg (by omega)]
theorem mod_step(v i:Nat):(v%256^i) ||| ((v/256^i%256) <<< (8*i))=v%256^(i+1):=by
 have e:256^i=2^(8*i):=by rw[Nat.pow_mul]
 have h:=Nat.two_pow_add_eq_or_of_lt (i:=8*i) (b:=v%256^i) (by rw[<-e];exact Nat.mod_lt _ (Nat.pow_pos (by decide))) (v/256^i%256);rw[Nat.shiftLeft_eq,Nat.or_comm,Nat.mul_comm, <-h, <-e,Nat.pow_succ,Nat.mod_mul,Nat.add_comm]
structure Rdr(w:World)(g x o n c:Nat)(F:Nat->Int):Prop where
 row:Row w g 259 1 (fun _=>.slice (some ⟨x,o,none⟩) n c)
 cells:∀j,j<n->w.cell? ⟨x,o+j,none⟩=some (.int .u8 (F j))
theorem take_ok(w:World)(g x o n c:Nat)(F:Nat->Int)(h:Rdr w g x o n c F)(v m:Nat)(hm:m<=5)(hv:v<256^m)(hn:m<n)(hc:n<=c)(hx:x≠g)(hb:∀j,j<m->F j=byteOf v j) :
  Spec Tryz.prog 174 #[.pointer (some ⟨g,0,none⟩),.int .i64 m] w fun u w'=>u=.int .i64 v/\Rdr w' g x (o+m) (n-m) (c-m) (fun j=>F (m+j))/\Keep [g] w w':=by
 refine spec_of_wpE (T:=tt) tt_ok Tryz.func174 rfl (by decide +kernel) Tryz.ntmps174 (by simp) ?_;conv=>whnf
 repeat ((first|(refine Ld.row h.row (by omega) ?_)|refine CW.s ?_);conv=>whnf)
 refine Ru.sl_h Tryz.underlying37 byte_szI (h:=m) (by omega) ?_;conv=>whnf
 refine CW.loop (ι:=Nat) (fun i w'=>i<=m/\w'=w) (fun i=>[(0,.pointer (some ⟨g,0,none⟩)),(1,.int .i64 m),(5,.int .i64 (v%256^i:Nat)),(13,.slice (some ⟨x,o,none⟩) m c),(14,.int .i64 m),(15,.int .i64 i)]) (fun i=>m-i) 0 tt_ok ⟨by omega,rfl⟩ ⟨rfl,rfl,vi (by simp[Nat.mod_one]),rfl,rfl,rfl,trivial⟩ ?_;rintro i wr ⟨hi,rfl⟩;by_cases hlt:i<m
 ·have hci:=h.cells i (by omega);rw[hb i hlt] at hci;have hbo:byteOf (v:Int) i=((v/256^i%256:Nat):Int):=by
   unfold byteOf
   push_cast
   rfl
  rw[hbo] at hci;conv=>whnf
  repeat ((first|(refine Ld.of hci ?_)|refine Ix.n ?_|refine Ar.la ?_|refine Br.y ?_|refine CW.s ?_);conv=>whnf)
  have hp4:256^i<=256^4:=Nat.pow_le_pow_right (by omega) (by omega);have e4:(256:Nat)^4=4294967296:=by decide
  have h1:v/256^i%256<256:=Nat.mod_lt _ (by omega);have h2:v%256^i<256^i:=Nat.mod_lt _ (Nat.pow_pos (by decide));have h3:(v/256^i%256) <<< (8*i)<2^63:=by
   rw[Nat.shiftLeft_eq,Nat.pow_mul];have:(v/256^i%256)*(2^8)^i<=255*4294967296:=Nat.mul_le_mul (by omega) (by rw[<-e4];exact hp4);omega
  rw[show(8*(i:Int))=((8*i:Nat):Int) by push_cast;rfl];refine Sh.shl64 h3 (by omega) ?_;conv=>whnf
  repeat ((first|refine Ar.la ?_);conv=>whnf)
  rw[bitv_or (by omega) h3,mod_step];exact⟨i+1,⟨hlt,rfl⟩,⟨rfl,rfl,rfl,rfl,rfl,rfl,trivial⟩,by simp only;omega⟩
 ·obtain rfl:i=m:=by omega
  conv=>whnf
  repeat ((first|(refine Ld.row h.row (by omega) ?_)|refine Br.n ?_|refine CW.s ?_);conv=>whnf)
  refine Ru.sl_l Tryz.underlying37 byte_szI (l:=i) (by omega) hc (by omega) ?_;conv=>whnf
  refine Sd.rowAt h.row 0 (by omega) (by omega) rfl ?_;intro w2 r2 k2;conv=>whnf
  refine⟨rfl,vi (by rw[Nat.mod_eq_of_lt hv]),⟨r2.congr (fun j hj=>by rw[c1 hj];rfl),fun j hj=>?_⟩,k2⟩;have hci:=h.cells (i+j) (by omega);rw[show o+i+j=o+(i+j) by omega,k2.cell (cell_lt hci) (by simpa using hx)];exact hci
def Cp.zero:Cp:=⟨fun _=>0,0,fun _=>false,0,fun _=>0,fun _=>0⟩
def cpkind(j:Nat):Nat:=cond (Nat.blt j 25) 2 (cond (Nat.blt j 37) 1 2)
theorem zcp_chk:zrun cpkind 62 (zcl 116).toList 0=true:=by kernel_rfl
theorem zcp:zcl 116=(Array.range 62).map Cp.zero.cell:=by
 rw[zrun_arr zcp_chk];apply Array.ext
 ·simp
 ·intro i h1 h2;simp only[Array.getElem_map,Array.getElem_range];unfold cpkind;rw[cond_if (blt_dec _ _),cond_if (blt_dec _ _)];unfold Cp.cell Cp.zero;by_cases h3:i<25
  ·rw[if_pos h3];by_cases h4:i<24
   ·rw[if_pos h4];rfl
   ·rw[if_neg h4,if_pos (by omega)];rfl
  ·rw[if_neg h3,if_neg (show ¬i<24 by omega),if_neg (show ¬i=24 by omega)];by_cases h5:i<37
   ·rw[if_pos h5,if_pos h5];rfl
   ·rw[if_neg h5,if_neg h5];simp only[ite_self];rfl
theorem alloc_cp0(w:World):(Instr.alloc 116 true (.tuple #[])).run Tryz.prog w=.ok (.pointer (some ⟨w.heap.size,0,none⟩)) (w.alloc (.cells (zcl 116) 116)):=by kernel_rfl
theorem alloc_cp(w:World):(Instr.alloc 116 true (.tuple #[])).run Tryz.prog w=.ok (.pointer (some ⟨w.heap.size,0,none⟩)) (w.alloc (rowObj 62 Cp.zero.cell 116)):=by
 rw[alloc_cp0,zcp];rfl
theorem build_rdr(A:Option Addr)(n c:Nat)(w:World):(Instr.build 259 #[(0,.slice A n c)]).run Tryz.prog w=.ok (.agg #[.slice A n c]) w:=by kernel_rfl
theorem badTo_bit(p:Cp)(i:Nat):∀k,i<k->badTo p k/2^i%2=if p.bad i then 1 else 0
 |0,h=>absurd h (by omega)
 | k+1,h=>by
  rw[badTo_step];by_cases hi:i=k
  ·subst hi;have hb:=badTo_lt p i;have hp:0<2^i:=Nat.pow_pos (by decide);by_cases hbad:p.bad i=true
   ·rw[if_pos hbad,if_pos hbad,Nat.add_div_right _ hp,Nat.div_eq_of_lt hb]
   ·rw[if_neg hbad,if_neg hbad,Nat.add_zero,Nat.div_eq_of_lt hb]
  ·have ih:=badTo_bit p i k (by omega);by_cases hbad:p.bad k=true
   ·rw[if_pos hbad];have e:2^k=2^i*(2*2^(k-i-1)):=by
     rw[<-Nat.mul_assoc, <-Nat.pow_succ, <-Nat.pow_add];congr 1;omega
    rw[e,Nat.add_mul_div_left _ _ (Nat.pow_pos (by decide)),Nat.add_mul_mod_self_left,ih]
   ·rw[if_neg hbad,Nat.add_zero,ih]
def cz(p:Cp)(n j:Nat):Value:=if j<n then p.cell j else Cp.zero.cell j
theorem cz_put(p:Cp)(n j:Nat):put (cz p n) n (p.cell n) j=cz p (n+1) j:=by
 unfold put cz;by_cases h:j=n
 ·rw[if_pos h,if_pos (by omega),h]
 ·rw[if_neg h];by_cases h2:j<n
  ·rw[if_pos h2,if_pos (by omega)]
  ·rw[if_neg h2,if_neg (by omega)]
theorem Sh.shrN{a n:Nat}{K:Value->Prop}(hn:n<=64)(k:K (.int .i64 ((a/2^n:Nat):Int))):Sh .shr .i64 (a:Int) (n:Int) K:=by
 refine⟨by omega,?_⟩;have e:min ((n:Int)).toNat IntKind.i64.bits=n:=by simp[IntKind.bits];omega
 have e2:(a:Int).fdiv (2^n)=((a/2^n:Nat):Int):=by
  rw[Int.fdiv_eq_ediv_of_nonneg _ (Int.le_of_lt (Int.pow_pos (by decide)))]
  push_cast
  rfl
 simp only[e,e2];exact k
structure RdS(w wr:World)(y x g4 g2 o c:Nat)(p:Cp)(a n:Nat):Prop where
 rd:Rdr wr y x (o+a) (174-a) (c-a) (fun j=>ptF p (a+j))
 row4:Row wr g4 116 62 (cz p n)
 row2:Row wr g2 116 62 Cp.zero.cell
 kk:Keep [] w wr
structure RdP(w:World)(y x g4 g2:Nat):Prop where
 yx:x≠y
 y4:y≠g4
 y2:y≠g2
 g42:g4≠g2
 x4:x≠g4
 yw:w.heap.size<=y
 gw:w.heap.size<=g4
theorem Keep.fresh{w wr wr':World}{z:Nat}(h:Keep [] w wr)(hz:w.heap.size<=z)(k:Keep [z] wr wr'):Keep [] w wr':=h.then k (fun u hu=>by rw[List.mem_singleton.1 hu];exact .inr hz)
theorem RdS.took{w wr w2:World}{y x g4 g2 o c:Nat}{p:Cp}{a n m:Nat}(q:RdP w y x g4 g2)(h:RdS w wr y x g4 g2 o c p a n)(R:Rdr w2 y x (o+a+m) (174-a-m) (c-a-m) (fun j=>ptF p (a+(m+j))))(k:Keep [y] wr w2):RdS w w2 y x g4 g2 o c p (a+m) n :=
 ⟨by
  rw[<-Nat.add_assoc, <-Nat.sub_sub, <-Nat.sub_sub];exact⟨R.row,fun j hj=>by rw[R.cells j hj,Nat.add_assoc]⟩,h.row4.keep k (by simpa using q.y4.symm),h.row2.keep k (by simpa using q.y2.symm),h.kk.fresh q.yw k⟩
theorem RdS.laid{w wr w2:World}{y x g4 g2 o c:Nat}{p:Cp}{a n:Nat}{v:Value}(q:RdP w y x g4 g2)(h:RdS w wr y x g4 g2 o c p a n)(r:Row w2 g4 116 62 (put (cz p n) n v))(e:v=p.cell n)(k:Keep [g4] wr w2):RdS w w2 y x g4 g2 o c p a (n+1) :=
 ⟨⟨h.rd.row.keep k (by simpa using q.y4),fun j hj=>by rw[k.cell (cell_lt (h.rd.cells j hj)) (by simpa using q.x4)];exact h.rd.cells j hj⟩,r.congr (fun j _=>by rw[e];exact cz_put p n j),h.row2.keep k (by simpa using q.g42.symm),h.kk.fresh q.gw k⟩
theorem nat_of{v b:Int}(h:0<=v/\v<=b):∃n:Nat,v=n/\(n:Int)<=b:=⟨v.toNat,by omega,by omega⟩
theorem ptF_end(p:Cp){j:Nat}(h:164<=j):ptF p j=0:=by
 unfold ptF;rw[if_neg (by omega),if_neg (by omega),if_neg (by omega),if_neg (by omega),if_neg (by omega),if_neg (by omega)]
theorem pread_ok(w:World)(x o c:Nat)(p:Cp)(hp:p.told)(hc:174<=c)(hcell:∀j,j<174->w.cell? ⟨x,o+j,none⟩=some (.int .u8 (ptF p j))) :
  Spec Tryz.prog 122 #[.slice (some ⟨x,o,none⟩) 174 c] w fun v w'=>v=.tuple #[agg 62 p.cell,errOf 0]/\Keep [] w w':=by
 have hxw:x<w.heap.size:=cell_lt (hcell 0 (by omega));refine spec_of_wpE (T:=tt) tt_ok Tryz.func122 rfl (by decide +kernel) Tryz.ntmps122 (by simp) ?_;conv=>whnf
 refine Ru.alloca (alloc_cp w) ?_;intro g2 w1 hg2 hs1 r2 k1;conv=>whnf
 refine Ru.alloca (alloc_cp w1) ?_;intro g4 w2 hg4 hs2 r4 k2;conv=>whnf
 repeat ((first|refine Br.f ?_|refine CW.s ?_);conv=>whnf)
 refine Ru.of (build_rdr _ _ _ _) ?_;conv=>whnf
 rw[agg_one];refine Ru.boxa ?_;intro y w3 hy hs3 ry k3;have hxc:∀j,j<174->w3.cell? ⟨x,o+j,none⟩=some (.int .u8 (ptF p j)):=fun j hj=>by
  rw[((k1.trans k2).trans k3).cell hxw (by simp)];exact hcell j hj
 have R3:Rdr w3 y x o 174 c (fun j=>ptF p (0+j)):=⟨ry,fun j hj=>by rw[Nat.zero_add];exact hxc j hj⟩;have r22:=(r2.keep k2 (by simp)).keep k3 (by simp);have r42:Row w3 g4 116 62 (cz p 0):=(r4.keep k3 (by simp)).congr (fun j hj=>by unfold cz;rw[if_neg (by omega)]);have kk:Keep [] w w3:=(k1.trans k2).trans k3;have yx:x≠y:=by omega
 have y4:y≠g4:=by omega
 have y2:y≠g2:=by omega
 have g42:g4≠g2:=by omega
 have x4:x≠g4:=by omega
 have yw:w.heap.size<=y:=by omega
 have gw:w.heap.size<=g4:=by omega
 have g2w:w.heap.size<=g2:=by omega
 clear hxc ry r4 r2 k1 k2 k3 hs1 hs2 hs3 hy hg4 hg2 hcell w1 w2;have q:RdP w y x g4 g2:=⟨yx,y4,y2,g42,x4,yw,gw⟩;have S:RdS w w3 y x g4 g2 o c p (5*0) 0:=⟨R3,r42,r22,kk⟩;clear R3 r42 r22 kk yx y4 y2 g42 x4 yw gw;conv=>whnf
 repeat ((first|refine CW.s ?_);conv=>whnf)
 refine CW.loop (ι:=Nat) (fun i wr=>i<=24/\RdS w wr y x g4 g2 o c p (5*i) i) (fun i=>[(2,.pointer (some ⟨g2,0,none⟩)),(4,.pointer (some ⟨g4,0,none⟩)),(5,.pointer (some ⟨y,0,none⟩)),(22,.int .i64 i)]) (fun i=>24-i) 0 tt_ok ⟨by omega,S⟩ ⟨rfl,rfl,rfl,rfl,trivial⟩ ?_;clear S w3;rintro k wr ⟨hk,S⟩;by_cases hlt:k<24
 ·obtain⟨v,hv,hv2⟩:=nat_of (hp.fl k hlt);conv=>whnf
  repeat ((first|refine Br.y ?_|refine CW.s ?_);conv=>whnf)
  refine Ca.of (take_ok wr y x (o+5*k) (174-5*k) (c-5*k) _ S.rd v 5 (by omega) (by omega) (by omega) (by omega) q.yx (fun j hj=>by rw[<-hv];exact(ptF_fl p hlt hj).symm)) ?_;rintro _ w2 ⟨rfl,R2,k2⟩;have S2:=S.took q R2 k2;conv=>whnf
  repeat ((first|refine Ix.n ?_);conv=>whnf)
  refine Sd.rowAt S2.row4 k (by omega) (by omega) rfl ?_;intro w3 r3 k3;have S3:=S2.laid q r3 (by rw[p.cell_fl hlt,hv]) k3;conv=>whnf
  repeat ((first|refine Ar.la ?_);conv=>whnf)
  exact⟨k+1,⟨hlt,S3⟩,⟨rfl,rfl,rfl,rfl,trivial⟩,by simp only;omega⟩
 obtain rfl:k=24:=by omega
 clear hlt hk;obtain⟨v,hv,hv2⟩:=nat_of hp.next;conv=>whnf
 repeat ((first|refine Br.f ?_|refine CW.s ?_);conv=>whnf)
 refine Ca.of (take_ok wr y x (o+5*24) (174-5*24) (c-5*24) _ S.rd v 5 (by omega) (by omega) (by omega) (by omega) q.yx (fun j hj=>by rw[<-hv];exact(ptF_next p hj).symm)) ?_;rintro _ w2 ⟨rfl,R2,k2⟩;have S2:=S.took q R2 k2;conv=>whnf
 refine Sd.rowAt S2.row4 24 (by omega) (by omega) rfl ?_;intro w3 r3 k3;have S3:=S2.laid q r3 (by rw[p.cell_next,hv]) k3;clear S S2 R2 k2 r3 k3 wr w2 hv hv2;conv=>whnf
 have hb12:badTo p 12<2^12:=badTo_lt p 12;refine Ca.of (take_ok w3 y x (o+125) (174-125) (c-125) _ S3.rd (badTo p 12) 2 (by omega) (by omega) (by omega) (by omega) q.yx (fun j hj=>(ptF_bad p hj).symm)) ?_;rintro _ w4 ⟨rfl,R4,k4⟩;have S4:=S3.took q R4 k4;clear S3 R4 k4 w3;conv=>whnf
 repeat ((first|refine CW.s ?_);conv=>whnf)
 refine CW.loop (ι:=Nat) (fun i wr=>i<=12/\RdS w wr y x g4 g2 o c p 127 (25+i)) (fun i=>[(2,.pointer (some ⟨g2,0,none⟩)),(4,.pointer (some ⟨g4,0,none⟩)),(5,.pointer (some ⟨y,0,none⟩)),(7,.int .i64 (badTo p 12:Nat)),(36,.int .i64 i)]) (fun i=>12-i) 0 tt_ok ⟨by omega,S4⟩ ⟨rfl,rfl,rfl,rfl,rfl,trivial⟩ ?_;clear S4 w4;rintro k wr ⟨hk,S⟩;by_cases hlt:k<12
 ·have hbit:=badTo_bit p k 12 hlt;have hsm:badTo p 12/2^k<2^12:=Nat.lt_of_le_of_lt (Nat.div_le_self _ _) hb12;conv=>whnf
  repeat ((first|(refine Sh.shrN (by omega) ?_)|refine Ix.n ?_|refine Br.y ?_|refine CW.s ?_);conv=>whnf)
  have hand:=bitv_and64 (a:=badTo p 12/2^k) (b:=1) (by omega) (by decide);rw[Nat.and_one_is_mod,hbit,Int.natCast_one] at hand;rw[hand];refine Sd.rowAt S.row4 (25+k) (by omega) (by omega) rfl ?_;intro w3 r3 k3;have S3:=S.laid q r3 (by rw[p.cell_bad hlt];cases p.bad k<;>rfl) k3;conv=>whnf
  repeat ((first|refine Ar.la ?_);conv=>whnf)
  exact⟨k+1,⟨hlt,S3⟩,⟨rfl,rfl,rfl,rfl,rfl,trivial⟩,by simp only;omega⟩
 obtain rfl:k=12:=by omega
 clear hlt hk;obtain⟨v2,hv,hv2⟩:=nat_of hp.cur;conv=>whnf
 repeat ((first|refine Br.f ?_|refine CW.s ?_);conv=>whnf)
 refine Ca.of (take_ok wr y x (o+127) (174-127) (c-127) _ S.rd v2 1 (by omega) (by omega) (by omega) (by omega) q.yx (fun j hj=>by rw[<-hv];exact(ptF_cur p hj).symm)) ?_;rintro _ w2 ⟨rfl,R2,k2⟩;have S2:=S.took q R2 k2;conv=>whnf
 refine Sd.rowAt S2.row4 37 (by omega) (by omega) rfl ?_;intro w3 r3 k3;have S3:RdS w w3 y x g4 g2 o c p (128+2*0) (38+0):=S2.laid q r3 (by rw[p.cell_cur,hv]) k3;clear S S2 R2 k2 r3 k3 wr w2;conv=>whnf
 repeat ((first|refine CW.s ?_);conv=>whnf)
 refine CW.loop (ι:=Nat) (fun i wr=>i<=12/\RdS w wr y x g4 g2 o c p (128+2*i) (38+i)) (fun i=>[(2,.pointer (some ⟨g2,0,none⟩)),(4,.pointer (some ⟨g4,0,none⟩)),(5,.pointer (some ⟨y,0,none⟩)),(7,.int .i64 (badTo p 12:Nat)),(51,.int .i64 i)]) (fun i=>12-i) 0 tt_ok ⟨by omega,S3⟩ ⟨rfl,rfl,rfl,rfl,rfl,trivial⟩ ?_;clear S3 w3;rintro k wr ⟨hk,S⟩;by_cases hlt:k<12
 ·obtain⟨v,hv,hv2⟩:=nat_of (hp.rd k hlt);conv=>whnf
  repeat ((first|refine Br.y ?_|refine CW.s ?_);conv=>whnf)
  refine Ca.of (take_ok wr y x (o+(128+2*k)) (174-(128+2*k)) (c-(128+2*k)) _ S.rd v 2 (by omega) (by omega) (by omega) (by omega) q.yx (fun j hj=>by rw[<-hv];exact(ptF_rd p hlt hj).symm)) ?_;rintro _ w2 ⟨rfl,R2,k2⟩;have S2:=S.took q R2 k2;conv=>whnf
  repeat ((first|refine Ix.n ?_);conv=>whnf)
  refine Sd.rowAt S2.row4 (38+k) (by omega) (by omega) rfl ?_;intro w3 r3 k3;have S3:=S2.laid q r3 (by rw[p.cell_rd hlt,hv]) k3;conv=>whnf
  repeat ((first|refine Ar.la ?_);conv=>whnf)
  exact⟨k+1,⟨hlt,S3⟩,⟨rfl,rfl,rfl,rfl,rfl,trivial⟩,by simp only;omega⟩
 obtain rfl:k=12:=by omega
 clear hlt hk;replace S:RdS w wr y x g4 g2 o c p (152+0) (50+0):=S;conv=>whnf
 repeat ((first|refine Br.f ?_|refine CW.s ?_);conv=>whnf)
 refine CW.loop (ι:=Nat) (fun i wr=>i<=12/\RdS w wr y x g4 g2 o c p (152+i) (50+i)) (fun i=>[(2,.pointer (some ⟨g2,0,none⟩)),(4,.pointer (some ⟨g4,0,none⟩)),(5,.pointer (some ⟨y,0,none⟩)),(7,.int .i64 (badTo p 12:Nat)),(60,.int .i64 i)]) (fun i=>12-i) 0 tt_ok ⟨by omega,S⟩ ⟨rfl,rfl,rfl,rfl,rfl,trivial⟩ ?_;clear S wr;rintro k wr ⟨hk,S⟩;by_cases hlt:k<12
 ·obtain⟨v,hv,hv2⟩:=nat_of (hp.sc k hlt);conv=>whnf
  repeat ((first|refine Br.y ?_|refine CW.s ?_);conv=>whnf)
  refine Ca.of (take_ok wr y x (o+(152+k)) (174-(152+k)) (c-(152+k)) _ S.rd v 1 (by omega) (by omega) (by omega) (by omega) q.yx (fun j hj=>by rw[<-hv];exact(ptF_sc p hlt hj).symm)) ?_;rintro _ w2 ⟨rfl,R2,k2⟩;have S2:=S.took q R2 k2;conv=>whnf
  repeat ((first|refine Ix.n ?_);conv=>whnf)
  refine Sd.rowAt S2.row4 (50+k) (by omega) (by omega) rfl ?_;intro w3 r3 k3;have S3:=S2.laid q r3 (by rw[p.cell_sc hlt,hv]) k3;conv=>whnf
  repeat ((first|refine Ar.la ?_);conv=>whnf)
  exact⟨k+1,⟨hlt,S3⟩,⟨rfl,rfl,rfl,rfl,rfl,trivial⟩,by simp only;omega⟩
 obtain rfl:k=12:=by omega
 clear hlt hk;obtain⟨rd,row4,row2,kk⟩:=S;have row4:=row4.congr (fun j hj=>(if_pos hj:cz p 62 j=p.cell j));have hcur:=hp.cur;conv=>whnf
 repeat ((first|(refine Ld.rowAt row4 37 (by omega) (by omega) ?_)|(refine Sh.shrN (n:=12) (by omega) ?_)|(refine Ld.row rd.row (by omega) ?_)|refine Br.t ?_|refine Br.f ?_|refine Pk.t ?_|refine Br.y ?_|refine CW.s ?_);conv=>whnf)
 refine CW.loop (ι:=Nat) (fun i w'=>i<=10/\w'=wr) (fun i=>[(2,.pointer (some ⟨g2,0,none⟩)),(4,.pointer (some ⟨g4,0,none⟩)),(11,.bool true),(80,.slice (some ⟨x,o+(152+12),none⟩) (174-(152+12)) (c-(152+12))),(81,.int .i64 10),(82,.int .i64 i)]) (fun i=>10-i) 0 tt_ok ⟨by omega,rfl⟩ ⟨rfl,rfl,vb (by simp;omega),rfl,rfl,rfl,trivial⟩ ?_;rintro k w' ⟨hk,rfl⟩;by_cases hlt:k<10
 ·have hci:=rd.cells k (by omega);rw[ptF_end p (by omega)] at hci;conv=>whnf
  repeat ((first|(refine Ld.of hci ?_)|refine Br.t ?_|refine Pk.t ?_|refine Ix.n ?_|refine Ar.la ?_|refine Br.y ?_|refine CW.s ?_);conv=>whnf)
  exact⟨k+1,⟨hlt,rfl⟩,⟨rfl,rfl,rfl,rfl,rfl,rfl,trivial⟩,by simp only;omega⟩
 obtain rfl:k=10:=by omega
 clear hlt hk;conv=>whnf
 repeat ((first|refine Br.f ?_|refine CW.s ?_);conv=>whnf)
 refine Ru.lda row4 Tryz.underlying116 rfl size_cp (by omega) ?_;rw[agg_congr (fun j _=>by rw[Nat.zero_add]:∀j,j<62->p.cell (0+j)=p.cell j)];conv=>whnf
 refine Ru.sta row2 size_cp (by omega) (fun j _=>p.cell_one j) ?_;intro w2 r2 k2;conv=>whnf
 refine Ru.lda r2 Tryz.underlying116 rfl size_cp (by omega) ?_;conv=>whnf
 rw[agg_congr (fun j hj=>by unfold lay;rw[if_pos (by omega),Nat.zero_add,Nat.sub_zero]:∀j,j<62->lay Cp.zero.cell 0 62 p.cell (0+j)=p.cell j)];exact⟨rfl,rfl,kk.fresh g2w k2⟩
def frontF(fo:Bool)(fb fi:Nat)(j:Nat):Value:=if j=0 then .bool fo else if j=1 then .int .i64 (fb:Nat) else .int .i64 (fi:Nat)
def FrontAt(w:World)(f:Nat)(fo:Bool)(fb fi:Nat):Prop:=Row w f 210 3 (frontF fo fb fi)
def roomB(fo:Bool)(fi o:Nat):Bool:=fo&&(decide (fi<8)&&holdsB fi o)
theorem front_agg(fo:Bool)(fb fi:Nat):Value.agg #[.bool fo,.int .i64 (fb:Nat),.int .i64 (fi:Nat)]=agg 3 (frontF fo fb fi):=by
 unfold agg;congr 1;apply Array.ext
 ·simp
 ·intro i h1 h2;simp only[Array.getElem_map,Array.getElem_range];have:i=0\/i=1\/i=2:=by simp at h1;omega
  rcases this with rfl|rfl|rfl<;>rfl
theorem size_front:(Tryz.prog.info? 210).map (·.size)=some 3:=by kernel_rfl
theorem build_front(b i:Int)(w:World):(Instr.build 210 #[(0,.bool true),(1,.int .i64 b),(2,.int .i64 i)]).run Tryz.prog w=.ok (.agg #[.bool true,.int .i64 b,.int .i64 i]) w:=by kernel_rfl
theorem build_front0(w:World):(Instr.build 210 #[]).run Tryz.prog w=.ok (.agg #[.bool false,.int .i64 0,.int .i64 0]) w:=by kernel_rfl
theorem frontF_one(fo:Bool)(fb fi j:Nat):(frontF fo fb fi j).oneCell'=true:=by
 unfold frontF;split
 ·rfl
 ·split<;>rfl
theorem holds_mod(b i o:Nat)(hi:i<8):holdsB (b*8+i) o=holdsB i o:=by
 unfold holdsB;rw[show(b*8+i)%8=i%8 by omega]
section
variable{w:World}{f:Nat}{fo:Bool}{fb fi:Nat}
theorem Ru.stfront{ro:Bool}{rb ri:Nat}{K:Unit->World->Prop}(r:FrontAt w f fo fb fi)(k:∀w',FrontAt w' f ro rb ri->Keep [f] w w'->K () w'):Ru Tryz.prog (storeVar 210 ⟨f,0,none⟩ (.agg #[.bool ro,.int .i64 (rb:Nat),.int .i64 (ri:Nat)])) w K:=by
 rw[front_agg]
 exact Ru.sta r size_front (by omega) (fun j _=>frontF_one ro rb ri j) (fun w' r' k'=>k w' (Row.congr r' (fun j hj=>by
  unfold lay;rw[if_pos (by omega),Nat.sub_zero])) k')
theorem fopen_ok(r:FrontAt w f fo fb fi)(b i:Nat)(hb:b<12)(hi:i<=8):Spec Tryz.prog 155 #[.pointer (some ⟨f,0,none⟩),.int .i64 b,.int .i64 i] w fun v w'=>v=errOf 0/\FrontAt w' f true b i/\Keep [f] w w':=by
 refine spec_of_wpE (T:=tt) tt_ok Tryz.func155 rfl (by decide +kernel) Tryz.ntmps155 (by simp) ?_;conv=>whnf
 repeat ((first|refine Br.f ?_|refine Pk.f ?_|refine Br.n ?_|refine CW.s ?_);conv=>whnf)
 refine Ru.of (build_front _ _ w) ?_;conv=>whnf
 refine Ru.stfront r (rb:=b) (ri:=i) ?_;intro w2 r2 k2;conv=>whnf
 exact⟨rfl,rfl,r2,k2⟩
theorem fclose_ok(r:FrontAt w f fo fb fi):Spec Tryz.prog 182 #[.pointer (some ⟨f,0,none⟩)] w fun v w'=>v=.tuple #[]/\FrontAt w' f false 0 0/\Keep [f] w w':=by
 refine spec_of_wpE (T:=tt) tt_ok Tryz.func182 rfl (by decide +kernel) Tryz.ntmps182 (by simp) ?_;conv=>whnf
 refine Ru.of (build_front0 w) ?_;conv=>whnf
 refine Ru.stfront r (rb:=0) (ri:=0) ?_;intro w2 r2 k2;conv=>whnf
 exact⟨rfl,rfl,r2,k2⟩
theorem fblock_ok(r:FrontAt w f fo fb fi):Spec Tryz.prog 111 #[.pointer (some ⟨f,0,none⟩)] w fun v w'=>v=.int .i64 (if fo then (fb:Int) else -1)/\w=w':=by
 refine spec_of_wpE (T:=tt) tt_ok Tryz.func111 rfl (by decide +kernel) Tryz.ntmps111 (by simp) ?_
 cases fo with
 | true =>
  conv=>whnf
  repeat ((first|(refine Ld.rowAt r 0 (by omega) (by omega) ?_)|(refine Ld.rowAt r 1 (by omega) (by omega) ?_)|refine Br.f ?_|refine CW.s ?_);conv=>whnf)
  exact⟨rfl,rfl,rfl⟩
 | false =>
  conv=>whnf
  repeat ((first|(refine Ld.rowAt r 0 (by omega) (by omega) ?_)|refine Br.t ?_|refine CW.s ?_);conv=>whnf)
  exact⟨rfl,rfl,rfl⟩
theorem froom_ok(r:FrontAt w f fo fb fi)(o:Nat)(hb:fb<12)(hi:fi<=8)(ho:o<=24):Spec Tryz.prog 153 #[.pointer (some ⟨f,0,none⟩),.int .i64 o] w fun v w'=>v=.bool (roomB fo fi o)/\FrontAt w' f fo fb fi/\Keep [] w w':=by
 refine spec_of_wpE (T:=tt) tt_ok Tryz.func153 rfl (by decide +kernel) Tryz.ntmps153 (by simp) ?_;conv=>whnf
 refine CW.held (fun w'=>FrontAt w' f fo fb fi) [] (.take 0 (.take 1 (.take 2 (.take 3 (.take 4 (.take 5 (.take 6 (.take 7 (.one 8 (.take 9 (.take 10 (.take 11 (.take 12 (.take 13 (.done))))))))))))))) tt_ok (by kernel_rfl) (by kernel_rfl) (by kernel_rfl) ?_ ?_
 ·exact Row.drewN r 1
 have r:=Row.drewN r 1;have k1:=(Keep.refl [] w).drewN 1;generalize w.drewN 1=w1 at *;conv=>whnf
 repeat ((first|(refine LdQ.at (j:=1) (by omega) (fun _ h=>Row.cell h 1 (by omega)) ?_)|(refine LdQ.at (j:=2) (by omega) (fun _ h=>Row.cell h 2 (by omega)) ?_));conv=>whnf)
 refine Ca.of (place_ok' w1 fb fi hb hi) ?_;rintro _ _ ⟨rfl,rfl⟩;unfold roomB;by_cases h8:fi<8
 ·rw[if_pos h8];have hd:decide (fi<8)=true:=decide_eq_true h8;rw[hd];conv=>whnf
  refine⟨r,?_⟩
  cases fo with
  | false =>
   conv=>whnf
   repeat ((first|(refine Ld.rowAt r 0 (by omega) (by omega) ?_)|refine Br.t ?_|refine Pk.t ?_|refine CW.s ?_);conv=>whnf)
   exact⟨rfl,rfl,r,k1⟩
  | true =>
   conv=>whnf
   repeat ((first|(refine Ld.rowAt r 0 (by omega) (by omega) ?_)|refine Br.f ?_|refine Pk.f ?_|refine Ru.neq_nil0 ?_|refine CW.s ?_);conv=>whnf)
   refine Ca.of (holds_ok w1 (fb*8+fi) o (by omega) ho) ?_;rintro _ _ ⟨rfl,rfl⟩;rw[holds_mod fb fi o h8]
   cases holdsB fi o with
   | true =>
    conv=>whnf
    repeat ((first|refine Br.t ?_|refine Pk.t ?_|refine Ru.eql_nil0 ?_);conv=>whnf)
    exact⟨rfl,rfl,r,k1⟩
   | false =>
    conv=>whnf
    repeat ((first|refine Br.f ?_|refine Pk.f ?_);conv=>whnf)
    exact⟨rfl,rfl,r,k1⟩
 ·rw[if_neg h8];have hd:decide (fi<8)=false:=decide_eq_false h8;rw[hd];conv=>whnf
  refine⟨r,?_⟩
  cases fo with
  | false =>
   conv=>whnf
   repeat ((first|(refine Ld.rowAt r 0 (by omega) (by omega) ?_)|refine Br.t ?_|refine Pk.t ?_|refine CW.s ?_);conv=>whnf)
   exact⟨rfl,rfl,r,k1⟩
  | true =>
   conv=>whnf
   repeat ((first|(refine Ld.rowAt r 0 (by omega) (by omega) ?_)|refine Br.t ?_|refine Br.f ?_|refine Pk.f ?_|refine Ru.n1 ?_|refine CW.s ?_);conv=>whnf)
   exact⟨rfl,rfl,r,k1⟩
theorem frontF_fi(n j:Nat)(hj:j<3):put (frontF fo fb fi) 2 (.int .i64 (n:Nat)) j=frontF fo fb n j:=by
 have:j=0\/j=1\/j=2:=by omega
 rcases this with rfl|rfl|rfl<;>rfl
theorem ftake_ok(r:FrontAt w f fo fb fi)(o:Nat)(hb:fb<12)(hi:fi<=8)(ho:o<=24)(hr:roomB fo fi o=true):Spec Tryz.prog 108 #[.pointer (some ⟨f,0,none⟩),.int .i64 o] w fun v w'=>v=.tuple #[.int .i64 ((fb*8+fi:Nat):Int),errOf 0]/\FrontAt w' f fo fb (fi+1)/\Keep [f] w w':=by
 have hfo:fo=true:=by
  unfold roomB at hr
  cases fo
  ·cases hr
  ·rfl
 have h8:fi<8:=by
  unfold roomB at hr;simp only[Bool.and_eq_true,decide_eq_true_eq] at hr;exact hr.2.1
 subst hfo;refine spec_of_wpE (T:=tt) tt_ok Tryz.func108 rfl (by decide +kernel) Tryz.ntmps108 (by simp) ?_;conv=>whnf
 repeat ((first|(refine Ld.rowAt r 0 (by omega) (by omega) ?_)|refine Br.f ?_|refine Pk.f ?_|refine Br.n ?_|refine CW.s ?_);conv=>whnf)
 refine Ca.of (froom_ok r o hb hi ho) ?_;rintro _ w1 ⟨rfl,r1,k1⟩;rw[hr];conv=>whnf
 repeat ((first|(refine Ld.rowAt r1 2 (by omega) (by omega) ?_)|refine Br.f ?_|refine Ar.la ?_);conv=>whnf)
 refine Sd.rowAt r1 2 (by omega) (by omega) rfl ?_;intro w2 r2 k2;have r2:FrontAt w2 f true fb (fi+1):=Row.congr r2 (fun j hj=>frontF_fi (fi+1) j hj);conv=>whnf
 refine CW.held (fun w'=>FrontAt w' f true fb (fi+1)) [] (.take 0 (.take 1 (.take 2 (.take 3 (.take 4 (.take 5 (.take 6 (.take 7 (.take 8 (.one 9 (.take 10 (.take 11 (.take 12 (.take 13 (.done))))))))))))))) tt_ok (by kernel_rfl) (by kernel_rfl) (by kernel_rfl) ?_ ?_
 ·exact Row.drewN r2 1
 have r3:=Row.drewN r2 1;have k3:=((k1.mono (by simp)).trans k2).drewN 1;generalize w2.drewN 1=w3 at *;conv=>whnf
 repeat ((first|(refine LdQ.at (j:=1) (by omega) (fun _ h=>Row.cell h 1 (by omega)) ?_)|(refine LdQ.at (j:=2) (by omega) (fun _ h=>Row.cell h 2 (by omega)) ?_)|refine Ar.la ?_);conv=>whnf)
 refine Ca.args (args' := #[.int .i64 fb,.int .i64 fi]) (by rw[show(((fi+1:Nat):Int)-1)=fi by omega];rfl) ?_;refine Ca.of (place_ok' w3 fb fi hb hi) ?_;rintro _ _ ⟨rfl,rfl⟩;rw[if_pos h8];conv=>whnf
 refine⟨r3,?_⟩;conv=>whnf
 exact⟨rfl,rfl,r3,k3⟩
end
/-! The patrol. -/
def patF(cur:Nat)(calls:Int)(j:Nat):Value:=if j=0 then .int .i64 (cur:Nat) else .int .i64 calls
def PatAt(w:World)(q cur:Nat)(calls:Int):Prop:=Row w q 217 2 (patF cur calls)
theorem mk8_run(w:World):(Instr.makeSlice 23 (.int .i64 8) (.int .i64 8)).run Tryz.prog w=.ok (.slice (some ⟨w.heap.size,0,none⟩) 8 8) (w.alloc (.cells (madeCells #[.int .i64 0] 8) 3)):=by kernel_rfl
def stF(cur n j:Nat):Value:=if j<n then .int .i64 (((cur+j)%96:Nat):Int) else .int .i64 0
theorem stF_put(cur n j:Nat):put (stF cur n) n (.int .i64 (((cur+n)%96:Nat):Int)) j=stF cur (n+1) j:=by
 unfold put stF;by_cases h:j=n
 ·subst h;rw[if_pos rfl,if_pos (by omega)]
 ·rw[if_neg h];by_cases h2:j<n
  ·rw[if_pos h2,if_pos (by omega)]
  ·rw[if_neg h2,if_neg (by omega)]
theorem build_pat(c:Int)(w:World):(Instr.build 217 #[(0,.int .i64 c)]).run Tryz.prog w=.ok (.agg #[.int .i64 c,.int .i64 0]) w:=by kernel_rfl
section
variable{w:World}{q cur:Nat}{calls:Int}
theorem pat_agg(cur:Nat):Value.agg #[.int .i64 (cur:Nat),.int .i64 0]=agg 2 (patF cur 0):=by
 unfold agg;congr 1;apply Array.ext
 ·simp
 ·intro i h1 h2;simp only[Array.getElem_map,Array.getElem_range];have:i=0\/i=1:=by simp at h1;omega
  rcases this with rfl|rfl<;>rfl
theorem patnew_ok(hc:cur<96):Spec Tryz.prog 126 #[.int .i64 cur] w fun v w'=>∃g,v=.tuple #[.pointer (some ⟨g,0,none⟩),errOf 0]/\PatAt w' g cur 0/\w.heap.size<=g/\Keep [] w w':=by
 refine spec_of_wpE (T:=tt) tt_ok Tryz.func126 rfl (by decide +kernel) Tryz.ntmps126 (by simp) ?_;conv=>whnf
 repeat ((first|refine CW.s ?_);conv=>whnf)
 refine Ca.of (parts_ok w cur hc) ?_;rintro _ _ ⟨rfl,rfl⟩;conv=>whnf
 repeat ((first|refine Br.f ?_|refine Ru.neq_nil0 ?_);conv=>whnf)
 refine Ru.of ((build_pat _ w).trans (by rw[pat_agg])) ?_;conv=>whnf
 refine Ru.boxa ?_;intro g w1 hg hs1 r1 k1;conv=>whnf
 exact⟨rfl,g,rfl,r1,by omega,k1⟩
theorem pcursor_ok(r:PatAt w q cur calls):Spec Tryz.prog 88 #[.pointer (some ⟨q,0,none⟩)] w fun v w'=>v=.int .i64 (cur:Nat)/\w=w':=by
 refine spec_of_wpE (T:=tt) tt_ok Tryz.func88 rfl (by decide +kernel) Tryz.ntmps88 (by simp) ?_;conv=>whnf
 repeat ((first|(refine Ld.rowAt r 0 (by omega) (by omega) ?_));conv=>whnf)
 exact⟨rfl,rfl,rfl⟩
theorem pdue_ok(r:PatAt w q cur calls):Spec Tryz.prog 103 #[.pointer (some ⟨q,0,none⟩)] w fun v w'=>v=.bool (decide (calls≥8))/\w=w':=by
 refine spec_of_wpE (T:=tt) tt_ok Tryz.func103 rfl (by decide +kernel) Tryz.ntmps103 (by simp) ?_;conv=>whnf
 repeat ((first|(refine Ld.rowAt r 1 (by omega) (by omega) ?_));conv=>whnf)
 exact⟨rfl,rfl,rfl⟩
theorem pnoted_ok(r:PatAt w q cur calls):Spec Tryz.prog 162 #[.pointer (some ⟨q,0,none⟩)] w fun v w'=>v=.tuple #[]/\PatAt w' q cur 0/\Keep [q] w w':=by
 refine spec_of_wpE (T:=tt) tt_ok Tryz.func162 rfl (by decide +kernel) Tryz.ntmps162 (by simp) ?_;conv=>whnf
 refine Sd.rowAt r 1 (by omega) (by omega) rfl ?_;intro w2 r2 k2;conv=>whnf
 refine⟨rfl,rfl,Row.congr r2 (fun j hj=>?_),k2⟩;have:j=0\/j=1:=by omega
 rcases this with rfl|rfl<;>rfl
theorem pstep_ok(r:PatAt w q cur calls)(hc:cur<96):Spec Tryz.prog 95 #[.pointer (some ⟨q,0,none⟩)] w fun v w'=>∃g,v=.slice (some ⟨g,0,none⟩) 8 8/\Row w' g 3 8 (fun j=>.int .i64 (((cur+j)%96:Nat):Int))/\w.heap.size<=g/\PatAt w' q ((cur+8)%96) (w64 (calls+1))/\Keep [q] w w':=by
 refine spec_of_wpE (T:=tt) tt_ok Tryz.func95 rfl (by decide +kernel) Tryz.ntmps95 (by simp) ?_;conv=>whnf
 refine Ru.of (mk8_run w) ?_;have rg:Row (w.alloc (.cells (madeCells #[.int .i64 0] 8) 3)) w.heap.size 3 8 (stF cur 0):=(Row.made _ _ _ _).congr (fun j _=>rfl);have k1:Keep [] w (w.alloc (.cells (madeCells #[.int .i64 0] 8) 3)):=(Keep.refl _ _).alloc _;have hql:=r.lt;have r1:PatAt _ q cur calls:=Row.keep r k1 (by simp);generalize hg:w.heap.size=g at *;generalize w.alloc _=w1 at *;have dqg:q≠g:=by omega
 conv=>whnf
 repeat ((first|refine CW.s ?_);conv=>whnf)
 refine CW.loop (ι:=Nat) (fun i w'=>i<=8/\Row w' g 3 8 (stF cur i)/\PatAt w' q ((cur+i)%96) calls/\Keep [q,g] w1 w') (fun i=>[(0,.pointer (some ⟨q,0,none⟩)),(3,.slice (some ⟨g,0,none⟩) 8 8),(7,.int .i64 8),(8,.int .i64 i)]) (fun i=>8-i) 0 tt_ok ⟨by omega,rg,by rw[Nat.add_zero,Nat.mod_eq_of_lt hc];exact r1,Keep.refl _ _⟩ ⟨rfl,rfl,rfl,rfl,trivial⟩ ?_;rintro i wr ⟨hi,ri,rp,ki⟩;by_cases hlt:i<8
 ·have hm:(cur+i)%96<96:=Nat.mod_lt _ (by omega);conv=>whnf
  repeat ((first|(refine Ld.rowAt rp 0 (by omega) (by omega) ?_)|refine Ix.n ?_|refine Br.y ?_|refine CW.s ?_);conv=>whnf)
  refine Sd.rowAt ri i (by omega) (by omega) rfl ?_;intro w2 r2 k2;have r2:=r2.congr (fun j _=>stF_put cur i j);have rp2:PatAt w2 q _ calls:=Row.keep rp k2 (by simpa using dqg);conv=>whnf
  repeat ((first|(refine Ld.rowAt rp2 0 (by omega) (by omega) ?_));conv=>whnf)
  refine Ca.args (args' := #[.int .i64 (((cur+i)%96:Nat):Int),.int .i64 1]) rfl ?_;refine Ca.of (on1_ok w2 ((cur+i)%96) hm) ?_;rintro _ _ ⟨rfl,rfl⟩;conv=>whnf
  refine Sd.rowAt rp2 0 (by omega) (by omega) rfl ?_;intro w3 r3 k3;conv=>whnf
  repeat ((first|refine Ar.la ?_);conv=>whnf)
  refine⟨i+1,⟨hlt,r2.keep k3 (by simpa using dqg.symm),Row.congr r3 (fun j hj=>?_),(ki.trans (k2.mono (by simp))).trans (k3.mono (by simp))⟩,⟨rfl,rfl,rfl,vi (by omega),trivial⟩,by simp only;omega⟩;have:j=0\/j=1:=by omega
  rcases this with rfl|rfl
  ·show Value.int .i64 ((((cur+i)%96+1)%96:Nat):Int)=Value.int .i64 (((cur+(i+1))%96:Nat):Int);exact vi (by omega)
  ·rfl
 ·obtain rfl:i=8:=by omega
  conv=>whnf
  repeat ((first|(refine Ld.rowAt rp 1 (by omega) (by omega) ?_)|(refine Ar.i64w ?_)|refine Br.f ?_|refine CW.s ?_);conv=>whnf)
  refine Sd.rowAt rp 1 (by omega) (by omega) rfl ?_;intro w2 r2 k2;conv=>whnf
  refine⟨rfl,g,rfl,(ri.keep k2 (by simpa using dqg.symm)).congr (fun j hj=>?_),by omega,Row.congr r2 (fun j hj=>?_),k1.mono (by simp) |>.then ((ki.trans (k2.mono (by simp)))) (fun x hx=>by simp at hx ⊢;omega)⟩
  ·unfold stF;rw[if_pos hj]
  ·have:j=0\/j=1:=by omega
   rcases this with rfl|rfl<;>rfl
end
def bestOf(s l:Nat->Int):Nat->Int
 |0=>-1
 |k+1=>if s k=2/\(bestOf s l k<0\/l k<l (bestOf s l k).toNat) then k else bestOf s l k
theorem bestOf_lt(s l:Nat->Int)(k:Nat) : -1<=bestOf s l k/\bestOf s l k<k:=by
 induction k with
 |zero=>simp[bestOf]
 |succ k ih=>unfold bestOf;split<;>omega
theorem choose_ok(w:World)(A B:Option Addr)(c d:Nat)(s l:Nat->Int)(rs:Rd w A 12 (fun j=>.int .i64 (s j)))(rl:Rd w B 12 (fun j=>.int .i64 (l j))) :
  Spec Tryz.prog 156 #[.slice A 12 c,.slice B 12 d] w fun v w'=>v=.tuple #[.int .i64 (if bestOf s l 12<0 then 0 else bestOf s l 12),errOf (if bestOf s l 12<0 then 11 else 0)]/\Keep [] w w':=by
 obtain⟨ba,oa,rfl,ha⟩:=rs (by omega);obtain⟨bb,ob,rfl,hb⟩:=rl (by omega);refine spec_of_wpE (T:=tt) tt_ok Tryz.func156 rfl (by decide +kernel) Tryz.ntmps156 (by simp) ?_;conv=>whnf
 repeat ((first|refine Br.f ?_|refine Pk.f ?_|refine CW.s ?_);conv=>whnf)
 refine CW.loop (ι:=Nat) (fun i wr=>i<=12/\Keep [] w wr) (fun i=>[(0,.slice (some ⟨ba,oa,none⟩) 12 c),(1,.slice (some ⟨bb,ob,none⟩) 12 d),(6,.int .i64 (bestOf s l i)),(18,.slice (some ⟨ba,oa,none⟩) 12 c),(19,.int .i64 12),(20,.int .i64 i)]) (fun i=>12-i) 0 tt_ok ⟨by omega,Keep.refl _ _⟩ ⟨rfl,rfl,rfl,rfl,rfl,rfl,trivial⟩ ?_;rintro i wr ⟨hi,kk⟩;have hbl:=bestOf_lt s l i;by_cases hlt:i<12
 ·have hst:bestOf s l (i+1)=if s i=2/\(bestOf s l i<0\/l i<l (bestOf s l i).toNat) then (i:Int) else bestOf s l i:=rfl;have cl:∀j,j<12->(wr.drewN 1).cell? ⟨bb,ob+j,none⟩=some (.int .i64 (l j)):=fun j hj=>(kk.cell (cell_lt (hb j hj)) (by simp)).trans (hb j hj);have cs:wr.cell? ⟨ba,oa+i,none⟩=some (.int .i64 (s i)):=(kk.cell (cell_lt (ha i hlt)) (by simp)).trans (ha i hlt);generalize bestOf s l i=t at *;conv=>whnf
  repeat ((first|(refine Ld.of cs ?_)|refine Ix.n ?_|refine Br.y ?_|refine CW.s ?_);conv=>whnf)
  refine CW.quiet (fun w'=>w'=wr.drewN 1) tt_ok (by kernel_rfl) (by kernel_rfl) ?_ ?_
  ·rfl
  by_cases h2:s i=2
  ·by_cases ht:t<0
   ·conv=>whnf
    repeat ((first|refine Br.t ?_|refine Pk.t ?_|refine Br.y ?_);conv=>whnf)
    rintro w3 rfl;conv=>whnf
    repeat ((first|refine Br.t ?_|refine Ar.la ?_);conv=>whnf)
    exact⟨i+1,⟨hlt,kk.drewN 1⟩,⟨rfl,rfl,vi (by rw[hst,if_pos ⟨h2,.inl ht⟩]),rfl,rfl,rfl,trivial⟩,by simp only;omega⟩
   ·obtain⟨b,rfl⟩:∃b:Nat,t=b:=⟨t.toNat,by omega⟩;rw[Int.toNat_natCast] at hst;have hb12:b<12:=by omega
    by_cases hl:l i<l b
    ·conv=>whnf
     repeat ((first|(refine LdQ.at (j:=ob+i) (by omega) (fun _ h=>by subst h;exact cl i hlt) ?_)|(refine LdQ.at (j:=ob+b) (by omega) (fun _ h=>by subst h;exact cl b hb12) ?_)|refine Br.t ?_|refine Br.f ?_|refine Pk.f ?_|refine Pk.t ?_|refine Ix.n ?_|refine Br.y ?_);conv=>whnf)
     rintro w3 rfl;conv=>whnf
     repeat ((first|refine Ar.la ?_|refine Br.y ?_);conv=>whnf)
     exact⟨i+1,⟨hlt,kk.drewN 1⟩,⟨rfl,rfl,vi (by rw[hst,if_pos ⟨h2,.inr hl⟩]),rfl,rfl,rfl,trivial⟩,by simp only;omega⟩
    ·conv=>whnf
     repeat ((first|(refine LdQ.at (j:=ob+i) (by omega) (fun _ h=>by subst h;exact cl i hlt) ?_)|(refine LdQ.at (j:=ob+b) (by omega) (fun _ h=>by subst h;exact cl b hb12) ?_)|refine Br.t ?_|refine Br.f ?_|refine Pk.f ?_|refine Pk.t ?_|refine Ix.n ?_|refine Br.y ?_);conv=>whnf)
     rintro w3 rfl;conv=>whnf
     repeat ((first|refine Ar.la ?_|refine Br.n ?_);conv=>whnf)
     exact⟨i+1,⟨hlt,kk.drewN 1⟩,⟨rfl,rfl,vi (by rw[hst,if_neg (fun h=>h.2.elim ht hl)]),rfl,rfl,rfl,trivial⟩,by simp only;omega⟩
  ·conv=>whnf
   repeat ((first|refine Br.f ?_|refine Pk.f ?_|refine Br.n ?_);conv=>whnf)
   rintro w3 rfl;conv=>whnf
   repeat ((first|refine Br.f ?_|refine Ar.la ?_);conv=>whnf)
   exact⟨i+1,⟨hlt,kk.drewN 1⟩,⟨rfl,rfl,vi (by rw[hst,if_neg (fun h=>h2 h.1)]),rfl,rfl,rfl,trivial⟩,by simp only;omega⟩
 ·obtain rfl:i=12:=by omega
  by_cases ht:bestOf s l 12<0
  ·rw[if_pos ht,if_pos ht];conv=>whnf
   repeat ((first|refine Br.f ?_|refine Br.y ?_|refine CW.s ?_);conv=>whnf)
   exact⟨rfl,rfl,kk⟩
  ·rw[if_neg ht,if_neg ht];conv=>whnf
   repeat ((first|refine Br.f ?_|refine Br.n ?_|refine CW.s ?_);conv=>whnf)
   exact⟨rfl,rfl,kk⟩
def qF(q:List Nat)(j:Nat):Value:=.int .i64 (q.getD j 0:Nat)
theorem getD_at(q:List Nat){j:Nat}(h:j<q.length):q.getD j 0=q[j]:=by simp[List.getD,h]
theorem index_ok(w:World)(X:Option Addr)(c:Nat)(q:List Nat)(b:Nat)(r:Rd w X q.length (qF q))(hq:q.length<=12) :
  Spec Tryz.prog 181 #[.slice X q.length c,.int .i64 b] w fun v w'=>∃x:Int,v=.int .i64 x/\(0<=x↔b∈q)/\w=w':=by
 refine spec_of_wpE (T:=tt) tt_ok Tryz.func181 rfl (by decide +kernel) Tryz.ntmps181 (by simp) ?_;conv=>whnf
 repeat ((first|refine CW.s ?_);conv=>whnf)
 refine CW.loop (ι:=Nat) (fun i wr=>i<=q.length/\wr=w/\∀j,j<i->q.getD j 0≠b) (fun i=>[(0,.slice X q.length c),(1,.int .i64 b),(7,.int .i64 q.length),(8,.int .i64 i)]) (fun i=>q.length-i) 0 tt_ok ⟨by omega,rfl,fun j hj=>by omega⟩ ⟨rfl,rfl,rfl,rfl,trivial⟩ ?_;rintro i wr ⟨hi,rfl,hno⟩;by_cases hlt:i<q.length
 ·obtain⟨g,o,rfl,hc⟩:=r (by omega);have ci:=hc i hlt;unfold qF at ci;by_cases he:b=q.getD i 0
  ·conv=>whnf
   repeat ((first|(refine Ld.of ci ?_)|refine Ix.n ?_|refine Br.y ?_|refine CW.s ?_);conv=>whnf)
   refine⟨rfl,_,rfl,⟨fun _=>?_,fun _=>by omega⟩,rfl⟩;rw[he,getD_at q hlt];exact List.getElem_mem hlt
  ·conv=>whnf
   repeat ((first|(refine Ld.of ci ?_)|refine Ix.n ?_|refine Ar.la ?_|refine Br.y ?_|refine Br.n ?_|refine CW.s ?_);conv=>whnf)
   exact⟨i+1,⟨hlt,rfl,fun j hj=>by
    by_cases e:j=i
    ·subst e;exact fun h=>he h.symm
    ·exact hno j (by omega)⟩,⟨rfl,rfl,rfl,vi (by omega),trivial⟩,by simp only;omega⟩
 ·obtain rfl:i=q.length:=by omega
  conv=>whnf
  repeat ((first|refine Br.n ?_|refine CW.s ?_);conv=>whnf)
  refine⟨rfl,_,rfl,⟨fun h=>by omega,fun h=>?_⟩,rfl⟩;obtain⟨j,hj,e⟩:=List.getElem_of_mem h;exact absurd (by rw[getD_at q hj,e]) (hno j hj)
theorem contains_ok(w:World)(X:Option Addr)(c:Nat)(q:List Nat)(b:Nat)(r:Rd w X q.length (qF q))(hq:q.length<=12) :
  Spec Tryz.prog 143 #[.slice X q.length c,.int .i64 b] w fun v w'=>v=.bool (decide (b∈q))/\w=w':=by
 refine spec_of_wpE (T:=tt) tt_ok Tryz.func143 rfl (by decide +kernel) Tryz.ntmps143 (by simp) ?_;conv=>whnf
 refine Ca.of (index_ok w X c q b r hq) ?_;rintro _ _ ⟨x,rfl,hx,rfl⟩;conv=>whnf
 exact⟨rfl,vb (by simp only[ge_iff_le,hx]),rfl⟩
structure QuAt(w:World)(k:Nat)(T:TypeId)(N o:Nat)(F:Nat->Value)(X:Option Addr)(c:Nat)(q:List Nat):Prop where
 row:Row w k T N F
 at_:F o=.slice X q.length c
 ly:Ly w 3 1 X q.length c (qF q)
def addQ(q:List Nat)(b:Nat):List Nat:=if b∈q then q else q++[b]
def QuEnd(w:World)(k:Nat)(T:TypeId)(N o:Nat)(F:Nat->Value)(X:Option Addr)(q':List Nat)(w':World):Prop :=
 ∃Y d,QuAt w' k T N o (put F o (.slice Y q'.length d)) Y d q'/\Keep (k::blk X) w w'/\∀x,x∈blk Y->x∈blk X\/w.heap.size<=x
section
variable{w:World}{k:Nat}{T:TypeId}{N o:Nat}{F:Nat->Value}{X:Option Addr}{c:Nat}{q:List Nat}
theorem build_j1(v:Int)(w:World):(Instr.buildSlice 23 1 #[(0,.int .i64 v)]).run Tryz.prog w=.ok (.slice (some ⟨w.heap.size,0,none⟩) 1 1) (w.alloc (.cells #[.int .i64 v] 3)):=by kernel_rfl
theorem qadd_ok(h:QuAt w k T N o F X c q)(ho:o<N)(hT:T≠3)(hq:q.length<=12)(b:Nat)(hb:b<12) :
  Spec Tryz.prog 98 #[.pointer (some ⟨k,o,none⟩),.int .i64 b] w fun v w'=>v=errOf 0/\QuEnd w k T N o F X (addQ q b) w':=by
 obtain⟨i0,hi,hz0,hz1,hz2⟩:=info_parts int_info;have hcell:w.cell? ⟨k,o,none⟩=some (.slice X q.length c):=(h.row.cell o ho).trans (congrArg some h.at_);refine spec_of_wpE (T:=tt) tt_ok Tryz.func98 rfl (by decide +kernel) Tryz.ntmps98 (by simp) ?_;conv=>whnf
 repeat ((first|(refine Ld.of hcell ?_)|refine Br.f ?_|refine Pk.f ?_|refine Br.n ?_|refine CW.s ?_);conv=>whnf)
 refine Ca.of (contains_ok w X c q b (by have:=h.ly.rd;rwa [Nat.mul_one] at this) hq) ?_;rintro _ _ ⟨rfl,rfl⟩;by_cases hm:b∈q
 ·conv=>whnf
  repeat ((first|refine Br.ny ?_);conv=>whnf)
  refine⟨rfl,rfl,?_⟩;unfold addQ;rw[if_pos hm];refine⟨X,c,⟨h.row.congr (fun j _=>?_),by unfold put;rw[if_pos rfl],h.ly⟩,Keep.refl _ _,fun x hx=>.inl hx⟩;unfold put;split
  ·rename_i e
   rw[e,h.at_]
  ·rfl
 ·conv=>whnf
  repeat ((first|(refine Ld.of hcell ?_)|refine Br.nn ?_);conv=>whnf)
  refine Ru.of (build_j1 _ _) ?_;have ka:Keep [] w (w.alloc (.cells #[.int .i64 b] 3)):=(Keep.refl _ _).alloc _;have ha:Rd (w.alloc (.cells #[.int .i64 b] 3)) (some ⟨w.heap.size,0,none⟩) 1 (fun _=>.int .i64 b):=rd_one (heap_alloc_new _ _);have l2:=h.ly.keep0 ka;have r2:=h.row.keep ka (by simp);have hX:∀x,x∈blk X->x<w.heap.size:=fun x hx=>h.ly.blk_lt hx;have hsz:(w.alloc (.cells #[.int .i64 b] 3)).heap.size=w.heap.size+1:=by simp
  generalize w.alloc _=w2 at *;conv=>whnf
  refine Bu.append Tryz.underlying23 hi hz0 hz1 hz2 rfl (by omega) l2 (fun _=>.int .i64 b) (by rw[Nat.mul_one];exact ha) (by omega) (by simp) (fun j hj=>rfl) (by simp only[maxLen];omega) (by omega) ?_;intro Z e w3 hz k3 hat hpre;have hkX:k∉blk X:=fun hx=>l2.row_ne r2 hT.symm hx;have r3:=r2.keep k3 hkX;have hkZ:k∉blk Z:=fun hx=>hz.row_ne r3 hT.symm hx;conv=>whnf
  refine Sd.rowAt r3 o (by omega) ho rfl ?_;intro w4 r4 k4;have hz4:=hz.keep k4 (by intro x hx hm;rw[List.mem_singleton.1 hm] at hx;exact hkZ hx);conv=>whnf
  refine⟨rfl,rfl,Z,e,?_⟩;unfold addQ;rw[if_neg hm];have hlen:(q++[b]).length=q.length+1:=by simp
  refine⟨⟨by rw[hlen];exact r4,by unfold put;rw[if_pos rfl],?_⟩,?_,?_⟩
  ·rw[hlen];refine hz4.congr (fun j hj=>?_);unfold qF;rw[Nat.mul_one] at hj ⊢;by_cases hj2:j<q.length
   ·rw[if_pos hj2,getD_at q hj2,getD_at (q++[b]) (by omega),List.getElem_append_left hj2]
   ·obtain rfl:j=q.length:=by omega
    rw[if_neg hj2,getD_at (q++[b]) (by omega)];simp
  ·exact((ka.mono (by simp)).trans (k3.mono (fun x hx=>List.mem_cons_of_mem _ hx))).trans (k4.mono (fun x hx=>by rw[List.mem_singleton.1 hx];exact List.mem_cons_self ..))
  ·intro x hx;rcases hat with e'|e'
   ·rw[e'] at hx;exact .inl hx
   ·rw[e'] at hx;rw[List.mem_singleton.1 hx];exact .inr (by simp only;omega)
theorem Ru.sl_from{P:Program}{t e:TypeId}{b o n c l:Nat}{K:Value->World->Prop}(hu:P.underlying t=some (.slice e))(hs:szIs P e 1=true)(hl:l<=n)(hn:n<=c)(k:∀o',(l<n->o'=o+l)->K (.slice (some ⟨b,o',none⟩) (n-l) (c-l)) w) :
  Ru P (Instr.sliceAt t (.slice (some ⟨b,o,none⟩) n c) (some (.int .i64 (l:Int))) none none) w K:=by
 by_cases hc:l<c
 ·exact Ru.sl_l hu hs hl hn hc (k _ (fun _=>rfl))
 ·obtain rfl:l=c:=by omega
  obtain⟨h1,h2⟩:=size_elem (w:=w) hu hs;refine⟨_,_,?_,k o (fun h=>by omega)⟩;rw[run_sliceAt_slice w t _ _ _ _ h1,run_slice_l w t _ n l h1 .i64 l (by omega) (by omega),h2];simp only[Result.andThen_ok,Int.toNat_natCast,sliced,if_pos]
theorem int_szI:szIs Tryz.prog 3 1=true:=by kernel_rfl
theorem qnext_none(h:QuAt w k T N o F X c [])(ho:o<N):Spec Tryz.prog 99 #[.pointer (some ⟨k,o,none⟩)] w fun v w'=>v=.tuple #[.int .i64 0,.bool false]/\w=w':=by
 have hcell:w.cell? ⟨k,o,none⟩=some (.slice X 0 c):=(h.row.cell o ho).trans (congrArg some h.at_);refine spec_of_wpE (T:=tt) tt_ok Tryz.func99 rfl (by decide +kernel) Tryz.ntmps99 (by simp) ?_;conv=>whnf
 repeat ((first|(refine Ld.of hcell ?_)|refine Br.t ?_|refine CW.s ?_);conv=>whnf)
 exact⟨rfl,rfl,rfl⟩
theorem qnext_ok{b:Nat}{t:List Nat}(h:QuAt w k T N o F X c (b::t))(ho:o<N)(hT:T≠3)(hq:t.length<=12):Spec Tryz.prog 99 #[.pointer (some ⟨k,o,none⟩)] w fun v w'=>v=.tuple #[.int .i64 b,.bool true]/\QuEnd w k T N o F X t w':=by
 have hcell:w.cell? ⟨k,o,none⟩=some (.slice X (t.length+1) c):=(h.row.cell o ho).trans (congrArg some h.at_);have hrd:Rd w X (t.length+1) (qF (b::t)):=by have:=h.ly.rd;rwa [Nat.mul_one] at this
 have hcap:=h.ly.1;obtain⟨g,oo,rfl,hc⟩:=hrd (by omega);have c0:=hc 0 (by omega);rw[Nat.add_zero] at c0;have c0:w.cell? ⟨g,oo,none⟩=some (.int .i64 b):=c0;refine spec_of_wpE (T:=tt) tt_ok Tryz.func99 rfl (by decide +kernel) Tryz.ntmps99 (by simp) ?_;conv=>whnf
 repeat ((first|(refine Ld.of hcell ?_)|(refine Ix.of 0 (by omega) (by omega) ?_)|(refine Ld.at (by omega) c0 ?_)|refine Br.f ?_|refine CW.s ?_);conv=>whnf)
 refine Ru.sl_from Tryz.underlying23 int_szI (l:=1) (by omega) hcap ?_;intro o' ho';conv=>whnf
 refine Ca.of (Hl.clone_ok ⟨g,o',none⟩ (t.length+1-1) (c-1) (fun j=>(t.getD j 0:Nat)) w (fun hlt=>⟨g,o',rfl,fun j hj=>by rw[ho' (by omega),Nat.add_assoc,Nat.add_comm 1 j];exact hc (j+1) (by omega)⟩) (by simp only[List.length_cons] at hcap;omega) (by omega)) ?_;rintro _ w2 ⟨Y,e,rfl,O⟩;conv=>whnf
 refine Sd.rowAt (h.row.keep O.keep (by simp)) o (by omega) ho rfl ?_;intro w3 r3 k3;have hkY:k∉blk Y:=fun hx=>by
  have:=O.new k hx;have:=h.row.lt;omega
 have hz4:=O.ly.keep k3 (by intro x hx hm;rw[List.mem_singleton.1 hm] at hx;exact hkY hx);conv=>whnf
 exact⟨rfl,rfl,Y,e,⟨r3,by unfold put;rw[if_pos rfl],hz4⟩,(O.keep.mono (by simp)).trans (k3.mono (fun x hx=>by rw[List.mem_singleton.1 hx];exact List.mem_cons_self ..)),fun x hx=>.inr (O.new x hx)⟩
end
end
section
open Go.RowKit Go.Extern.Stop Go.Stop Go.Extern
theorem isTypeOf(v:Value)(w:World):(Extern.ReflectliteType.typeOf #[.iface 40 v]).run Tryz.prog w=.ok (.iface 225 (.agg #[.pointer (some ⟨0,40,none⟩)])) w:=by kernel_rfl
def cmpExt : Array Value → Sem Value := Extern.ReflectliteType.method fun t => do Extern.Rtype.noPackHeld "Comparable" t; pure (.bool (← typeInfo t).comparable)
theorem isComparable(w:World):(cmpExt #[.agg #[.pointer (some ⟨0,40,none⟩)]]).run Tryz.prog w=.ok (.bool true) w:=by kernel_rfl
theorem isMethodComparable (v : Value) (w : World) : (Go.method 470 225 v "Comparable").run Tryz.prog w = .ok (267, v) w := by kernel_rfl
theorem noIsE(v:Value)(xT:TypeId)(w:World):(Instr.typeAssert (.iface 40 v) xT 227 true).run Tryz.prog w=.ok (.tuple #[.nilIface,.bool false]) w:=run_typeAssert_lacksB Tryz.underlying227 (by kernel_rfl) (by kernel_rfl) v xT w
theorem noUnwrapE(v:Value)(xT:TypeId)(w:World):(Instr.typeAssert (.iface 40 v) xT 230 true).run Tryz.prog w=.ok (.tuple #[.nilIface,.bool false]) w:=run_typeAssert_lacksB Tryz.underlying230 (by kernel_rfl) (by kernel_rfl) v xT w
theorem noUnwrapsE(v:Value)(xT:TypeId)(w:World):(Instr.typeAssert (.iface 40 v) xT 231 true).run Tryz.prog w=.ok (.tuple #[.nilIface,.bool false]) w:=run_typeAssert_lacksB Tryz.underlying231 (by kernel_rfl) (by kernel_rfl) v xT w
theorem is_nil(k:Int)(w:World):Calls Tryz.prog 60 #[.nilIface,.iface 40 (.int .i64 k)] w fun e w'=>e=.returned (.bool false)/\w'=w:=by
 have hn:=run_eql_iface_nil_left (P:=Tryz.prog) w 40 (.int .i64 k) Tryz.underlying33
 go_enter Tryz.func60,Tryz.ntmps60
 go_wp2
 go_ret
 exact⟨rfl,rfl⟩
theorem is_same(k:Int)(w:World):Calls Tryz.prog 60 #[.iface 40 (.int .i64 k),.iface 40 (.int .i64 k)] w fun e w'=>e=.returned (.bool true)/\w'=w:=by
 have h8:=@run_callFunc_extern Tryz.prog 93 _ Extern.ReflectliteType.typeOf Tryz.func93 (by kernel_rfl) (by kernel_rfl) (by kernel_rfl) (by kernel_rfl);have h32:=@run_callFunc_extern Tryz.prog 267 _ cmpExt Tryz.func267 (by kernel_rfl) (by kernel_rfl) (by kernel_rfl) (by kernel_rfl);have tT:=isTypeOf;have cT:=isComparable;have mR:=isMethodComparable;have heq:(binOp .eql 33 (.iface 40 (.int .i64 k)) (.iface 40 (.int .i64 k))).run Tryz.prog w=.ok (.bool true) w:=by
  rw[eq_err k k w];simp
 go_enter Tryz.func60,Tryz.ntmps60
 go_wp2
 refine wp_loop_rounds 1 ?_;rw[rounds_succ]
 go_wp2
 go_ret
 exact⟨rfl,rfl⟩
theorem is_other(c k:Int)(hne:c≠k)(w:World):Calls Tryz.prog 60 #[.iface 40 (.int .i64 c),.iface 40 (.int .i64 k)] w fun e w'=>e=.returned (.bool false)/\w'=w:=by
 have h8:=@run_callFunc_extern Tryz.prog 93 _ Extern.ReflectliteType.typeOf Tryz.func93 (by kernel_rfl) (by kernel_rfl) (by kernel_rfl) (by kernel_rfl);have h32:=@run_callFunc_extern Tryz.prog 267 _ cmpExt Tryz.func267 (by kernel_rfl) (by kernel_rfl) (by kernel_rfl) (by kernel_rfl);have tT:=isTypeOf;have cT:=isComparable;have mR:=isMethodComparable;have nE:=noIsE;have uE:=noUnwrapE;have vE:=noUnwrapsE;have heq:(binOp .eql 33 (.iface 40 (.int .i64 c)) (.iface 40 (.int .i64 k))).run Tryz.prog w=.ok (.bool false) w:=by
  rw[eq_err c k w];simp[hne]
 go_enter Tryz.func60,Tryz.ntmps60
 go_wp2
 refine wp_loop_rounds 1 ?_;rw[rounds_succ]
 go_wp2
 go_ret
 exact⟨rfl,rfl⟩
theorem eis_ok(c k:Int)(hk:k≠0)(w:World):Spec Tryz.prog 60 #[errOf c,.iface 40 (.int .i64 k)] w fun v w'=>v=.bool (decide (c=k))/\w=w':=by
 refine Spec.of_ret (by kernel_rfl) (Ψ:=fun e w'=>e=.returned (.bool (decide (c=k)))/\w'=w) ?_ (fun e w' h=>⟨_,h.1,rfl,h.2.symm⟩);by_cases h:c=0
 ·subst h;rw[decide_eq_false (fun e=>hk e.symm)];exact is_nil k w
 ·rw[errOf_pos h];by_cases hck:c=k
  ·subst hck;rw[decide_eq_true rfl];exact is_same c w
  ·rw[decide_eq_false hck];exact is_other c k hck w
end
section
open Go.RowKit
attribute [local irreducible] ahead Fd.sound
def okB(p:Cp)(f:Fd):Bool := !p.bad (f.place/8).toNat
def goodF(L:List Fd)(p:Cp):List Fd:=L.filter (okB p)
def aboveF(p:Cp)(of:Nat):Int:=if of<24 then p.fl of else -1
def placeOf(s:Fd×Bool):Int:=if s.2=true then s.1.place else -1
def liveF(L:List Fd)(p:Cp)(of:Nat):Int:=placeOf (newestF (goodF (byP L 96) p) of (aboveF p of))
theorem goodF_snoc(L:List Fd)(p:Cp)(f:Fd):goodF (L++[f]) p=goodF L p++if okB p f=true then [f] else []:=by
 unfold goodF;rw[List.filter_append];simp only[List.filter_cons,List.filter_nil]
theorem goodF_len(L:List Fd)(p:Cp):(goodF L p).length<=L.length:=List.length_filter_le _ _
theorem zout_run(w:World):(Instr.alloc 59 true (.tuple #[])).run Tryz.prog w=.ok (.pointer (some ⟨w.heap.size,0,none⟩)) (w.alloc (rowObj 25 (fun _=>.int .i64 0) 59)):=by kernel_rfl
theorem out_size:(Tryz.prog.info? 59).map (·.size)=some 25:=by kernel_rfl
def outAt(v:Nat->Int)(k:Nat)(j:Nat):Value:=if j<k then .int .i64 (v j) else .int .i64 0
theorem outAt_put(v:Nat->Int)(k:Nat):∀j,j<25->put (outAt v k) k (.int .i64 (v k)) j=outAt v (k+1) j:=fun j _=>by
 unfold put outAt;by_cases h:j=k
 ·subst h;rw[if_pos rfl,if_pos (by omega)]
 ·rw[if_neg h];by_cases h2:j<k
  ·rw[if_pos h2,if_pos (by omega)]
  ·rw[if_neg h2,if_neg (by omega)]
theorem put_put(f:Nat->Value)(i:Nat)(u v:Value):put (put f i u) i v=put f i v:=by
 funext j;unfold put;by_cases h:j=i<;>simp[h]
def LivePost(v:Nat->Int)(w:World)(u:Value)(w':World):Prop:=u=agg 25 (fun j=>.int .i64 (v j))/\Keep [] w w'
theorem sound_place{f:Fd}(h:f.sound=true):0<=f.place/\f.place<=95:=by
 unfold Fd.sound at h;have:=of_decide_eq_true h;omega
theorem live_ok(A:Option Addr)(c:Nat)(L:List Fd)(p:Cp)(w:World)(hr:Rd w A (L.length*6) (fdF L))(hn:L.length*48<=140737488351232) :
  Spec Tryz.prog 130 #[.slice A L.length c,agg 62 p.cell] w (LivePost (liveF L p) w):=by
 obtain⟨i0,hi,hz0,hz1,hz2⟩:=info_parts found_info;have hbl:=byP_len L 96;have hsnd:=fun f (hf:f∈byP L 96)=>byP_sound hf;unfold liveF;refine spec_of_wpE (T:=tt) tt_ok Tryz.func130 rfl (by decide +kernel) Tryz.ntmps130 (by simp) ?_;conv=>whnf
 refine Ru.boxa ?_;intro g3 w1 hg3 hs1 r3 k1;conv=>whnf
 refine Ru.alloca (zout_run w1) ?_;intro g4 w2 hg4 hs2 r4 k2;have r3:=r3.keep k2 (by simp);conv=>whnf
 repeat ((first|refine CW.s ?_);conv=>whnf)
 refine Ca.of (byPlace_ok A c L w2 (hr.keep0 (k1.trans k2)) hn) ?_;rintro _ w3 ⟨B,d,rfl,hly,hnew,k3⟩;have r3:=r3.keep k3 (by simp);have r4:=r4.keep k3 (by simp);have kk:=(k1.trans k2).trans k3;generalize byP L 96=M at *;have hl4:=r4.lt;conv=>whnf
 refine CW.loop (ι:=Nat×Option Addr×Nat) (fun i w4=>i.1<=M.length/\Ly w4 69 6 i.2.1 (goodF (M.take i.1) p).length i.2.2 (fdF (goodF (M.take i.1) p))/\(∀x,x∈blk i.2.1->w3.heap.size<=x)/\Keep [] w3 w4)
  (fun i=>[(3,.pointer (some ⟨g3,0,none⟩)),(4,.pointer (some ⟨g4,0,none⟩)),(5,.slice i.2.1 (goodF (M.take i.1) p).length i.2.2),(14,.slice B M.length d),(15,.int .i64 M.length),(16,.int .i64 i.1)]) (fun i=>M.length-i.1) (0,none,0) tt_ok ⟨by simp,Ly.nil _ _ _ _,(fun _ h=>by cases h),Keep.refl _ _⟩ ⟨rfl,rfl,rfl,rfl,rfl,rfl,trivial⟩ ?_;rintro⟨k,Z,cz⟩ w4 ⟨hk,hlz,hznew,k4⟩;simp only at hk hlz hznew;by_cases hlt:k<M.length
 ·obtain⟨b,o,rfl,hc⟩:=fd_cells (hly.keep0 k4).rd k hlt;have htk:=take_snoc hlt;have hgl:=goodF_len (M.take k) p;have hlk:(M.take k).length=k:=by simp;omega
  have hs:=hsnd _ (show M.getD k Fd.zero∈M by rw[List.getD_eq_getElem?_getD,List.getElem?_eq_getElem hlt];exact List.getElem_mem hlt);generalize M.getD k Fd.zero=f at *;have hst:goodF (M.take (k+1)) p=goodF (M.take k) p++if okB p f=true then [f] else []:=by rw[htk,goodF_snoc]
  have hpl:=sound_place hs;have hb:(f.place/8).toNat<12:=by omega
  conv=>whnf
  repeat ((first|refine Ix.n ?_|refine Br.y ?_|refine CW.s ?_);conv=>whnf)
  refine Ru.ldfds hc ?_;conv=>whnf
  refine Ru.allocfd ?_;intro g7 w5 hg7 hs5 r7 k5;conv=>whnf
  refine Ru.stfd r7 ?_;intro w6 r7 k6;have q6:Keep [] w4 w6:=k5.then k6 (fun x hx=>.inr (by rw[List.mem_singleton.1 hx];omega));have hbad:=(r3.keep (k4.trans q6) (by simp)).cell (25+(f.place/8).toNat) (by omega);rw[p.cell_bad hb] at hbad;conv=>whnf
  repeat ((first|(refine Ld.row r7 (by omega) ?_)|(refine Ld.at (by omega) hbad ?_)|refine Ix.i ?_|refine Dv.q ?_);conv=>whnf)
  refine⟨fun hg=>?_,fun hg=>?_⟩
  ·have e1:goodF (M.take (k+1)) p=goodF (M.take k) p++[f]:=by rw[hst,if_pos (show okB p f=true from hg)]
   have e2:(goodF (M.take (k+1)) p).length=(goodF (M.take k) p).length+1:=by rw[e1];simp
   conv=>whnf
   refine Ru.ldfd r7 ?_;conv=>whnf
   refine Ru.buildfd f ?_;intro g2 w7 hg2 hs7 r2 k7;conv=>whnf
   refine Bu.append Tryz.underlying64 hi hz0 hz1 hz2 rfl (by omega) (hlz.keep0 (q6.trans k7)) _ (Rd.of_row r2 (n:=1*6) (by omega)) (by omega) (by simp) (fun j hj=>fd_one_cell f j hj) (by simp only[maxLen];omega) (by omega) ?_;intro Y cY w8 hy hkp hat hpre;conv=>whnf
   repeat ((first|refine Ar.la ?_);conv=>whnf)
   refine⟨(k+1,Y,cY),⟨hlt,?_,fun x hx=>?_,((k4.trans q6).trans k7).then hkp (fun x hx=>.inr (hznew x hx))⟩,⟨rfl,rfl,congrArg (fun n=>Value.slice Y n cY) e2.symm,rfl,rfl,rfl,trivial⟩,by simp only;omega⟩
   ·simp only;rw[e2];refine hy.congr (fun j hj=>?_);rw[e1];exact(fdF_snoc _ _ _ hj).symm
   ·rcases hat with e|e
    ·exact hznew x (e ▸ hx)
    ·simp only at hx;rw[e] at hx;obtain rfl:=List.mem_singleton.1 hx;exact Nat.le_trans (Nat.le_trans k4.size q6.size) k7.size
  ·have e1:goodF (M.take (k+1)) p=goodF (M.take k) p:=by rw[hst,if_neg (by unfold okB;rw[hg];simp),List.append_nil]
   conv=>whnf
   repeat ((first|refine Ar.la ?_);conv=>whnf)
   exact⟨(k+1,Z,cz),⟨hlt,by simp only;rw[e1];exact hlz.keep0 q6,hznew,k4.trans q6⟩,⟨rfl,rfl,by rw[e1];rfl,rfl,rfl,rfl,trivial⟩,by simp only;omega⟩
 ·obtain rfl:k=M.length:=by omega
  rw[List.take_length] at hlz;have hgl:=goodF_len M p;have eg:goodF (M.take M.length) p=goodF M p:=by rw[List.take_length]
  generalize goodF M p=G0 at *;generalize goodF (M.take M.length) p=G at *;subst eg;have r3:=r3.keep k4 (by simp);have r4:=r4.keep k4 (by simp);have kk:=kk.trans k4;have hzlt:=fun x (hx:x∈blk Z)=>hlz.blk_lt hx;conv=>whnf
  repeat ((first|refine Br.n ?_|refine CW.s ?_);conv=>whnf)
  refine Ru.alloca (zout_run w4) ?_;intro g8 w5 hg8 hs5 r8 k5;have r3:=r3.keep k5 (by simp);have r4:=r4.keep k5 (by simp);have hlz:=hlz.keep0 k5;have d48:g4≠g8:=by have:=k4.size;omega
  have d38:g3≠g8:=by have:=k4.size;have:=k3.size;have:=k2.size;omega
  have hz8:∀x,x∈blk Z->x∉[g8]:=fun x hx e=>by
   have:=hzlt x hx;rw[List.mem_singleton.1 e] at this;omega
  have kk:=kk.trans k5;have hw8:w.heap.size<=g8:=by have:=kk.size;have:=k4.size;have:=k3.size;have:=k2.size;omega
  generalize hV:(fun of:Nat=>placeOf (newestF G of (aboveF p of)))=V at *;conv=>whnf
  repeat ((first|refine CW.s ?_);conv=>whnf)
  refine CW.loop (ι:=Nat) (fun i w'=>i<=25/\Row w' g8 59 25 (outAt V i)/\Keep [g8] w5 w') (fun i=>[(3,.pointer (some ⟨g3,0,none⟩)),(4,.pointer (some ⟨g4,0,none⟩)),(5,.slice Z G.length cz),(8,.pointer (some ⟨g8,0,none⟩)),(32,.int .i64 i)]) (fun i=>25-i) 0 tt_ok ⟨by omega,r8.congr (fun j _=>rfl),Keep.refl _ _⟩ ⟨rfl,rfl,rfl,rfl,rfl,trivial⟩ ?_;rintro k w6 ⟨hk,r8,k6⟩;have r3:=r3.keep k6 (by simpa using d38);have r4:=r4.keep k6 (by simpa using d48);have hlz:=hlz.keep k6 hz8;by_cases hlt:k<25
  ·have hfl:=r3.cell k (by omega);have hv:V k=placeOf (newestF G k (aboveF p k)):=by rw[<-hV]
   conv=>whnf
   refine CW.seq tt_ok ?_;conv=>whnf
   repeat ((first|refine Br.y ?_);conv=>whnf)
   refine CW.seq tt_ok ?_;conv=>whnf
   refine CW.cut (ι:=Unit) (fun _ w'=>w6=w') (fun _=>[(3,.pointer (some ⟨g3,0,none⟩)),(4,.pointer (some ⟨g4,0,none⟩)),(5,.slice Z G.length cz),(8,.pointer (some ⟨g8,0,none⟩)),(9,.int .i64 k),(10,.int .i64 (aboveF p k)),(32,.int .i64 k)]) tt_ok ?_ ?_
   ·by_cases h24:k<24
    ·rw[p.cell_fl h24] at hfl;conv=>whnf
     repeat ((first|(refine Ld.at (by omega) hfl ?_)|refine Ix.n ?_|refine Br.y ?_);conv=>whnf)
     exact⟨(),rfl,rfl,rfl,rfl,rfl,rfl,vi (if_pos h24).symm,rfl,trivial⟩
    ·conv=>whnf
     repeat ((first|refine Br.n ?_);conv=>whnf)
     exact⟨(),rfl,rfl,rfl,rfl,rfl,rfl,vi (if_neg h24).symm,rfl,trivial⟩
   rintro _ _ rfl;conv=>whnf
   repeat ((first|refine Ix.n ?_);conv=>whnf)
   refine Sd.rowAt r8 k (by omega) hlt rfl ?_;intro w7 r8 k7;have hlz:=hlz.keep k7 hz8;conv=>whnf
   refine Ca.of (newest_ok Z cz G k (aboveF p k) w7 hlz.rd (by omega)) ?_;rintro _ w8 ⟨rfl,k8⟩;have r8:=r8.keep k8 (by simp);generalize newestF G k (aboveF p k)=s at *;conv=>whnf
   refine Ru.allocfd ?_;intro g11 w9 hg11 hs9 r11 k9;have hl8:=r8.lt;have r8:=r8.keep k9 (by simp);conv=>whnf
   refine Ru.stfd r11 ?_;intro w10 r11 k10;have d11:g11≠g8:=by omega
   have r8:=r8.keep k10 (by simpa using d11.symm);have q10:Keep [] w8 w10:=k9.then k10 (fun x hx=>.inr (by rw[List.mem_singleton.1 hx];omega));have q6:Keep [g8] w5 w10:=((k6.trans k7).trans (k8.mono (by simp))).trans (q10.mono (by simp));conv=>whnf
   refine⟨fun hh=>?_,fun hh=>?_⟩
   ·conv=>whnf
    repeat ((first|(refine Ld.row r11 (by omega) ?_)|refine Ix.n ?_);conv=>whnf)
    refine Sd.rowAt r8 k (by omega) hlt rfl ?_;intro w11 r8 k11;rw[put_put] at r8;conv=>whnf
    repeat ((first|refine Ar.la ?_);conv=>whnf)
    refine⟨k+1,⟨hlt,r8.congr (fun j hj=>?_),q6.trans k11⟩,⟨rfl,rfl,rfl,rfl,rfl,trivial⟩,by simp only;omega⟩;rw[<-outAt_put V k j hj,hv];unfold placeOf;rw[if_pos hh];rfl
   ·conv=>whnf
    repeat ((first|refine Ar.la ?_);conv=>whnf)
    refine⟨k+1,⟨hlt,r8.congr (fun j hj=>?_),q6⟩,⟨rfl,rfl,rfl,rfl,rfl,trivial⟩,by simp only;omega⟩;rw[<-outAt_put V k j hj,hv];unfold placeOf;rw[if_neg (by rw[hh];simp)]
  ·obtain rfl:k=25:=by omega
   conv=>whnf
   repeat ((first|refine Br.f ?_|refine CW.s ?_);conv=>whnf)
   refine Ru.ldaC (q:=fun j=>.int .i64 (V j)) r8 Tryz.underlying59 rfl out_size (by omega) (fun j hj=>by rw[Nat.zero_add];exact if_pos hj) ?_;conv=>whnf
   refine Ru.sta r4 out_size (by omega) (fun j _=>rfl) ?_;intro w7 r4 k7;conv=>whnf
   refine Ru.ldaC (q:=fun j=>.int .i64 (V j)) r4 Tryz.underlying59 rfl out_size (by omega) (fun j hj=>by unfold lay;rw[if_pos (by omega)];simp) ?_;conv=>whnf
   refine⟨rfl,?_,(kk.then k6 (fun x hx=>.inr (by rw[List.mem_singleton.1 hx];exact hw8))).then k7 (fun x hx=>.inr (by rw[List.mem_singleton.1 hx];omega))⟩;rw[<-hV];rfl
end
section
open Go.RowKit
structure En where
 seq:Int
 copy:Int
 lost:Bool
def En.zero:En:=⟨0,0,false⟩
def En.cell(e:En)(j:Nat):Value:=if j=0 then .int .i64 e.seq else if j=1 then .int .i64 e.copy else .bool e.lost
structure KS where
 st:Nat->Nat
 pn:Nat
 at_:Nat->Nat
 ow:Nat->Nat
 fo:Bool
 fb:Nat
 fi:Nat
 F:Nat->Int
 cur:Nat
 calls:Int
 qu:List Nat
 en:Nat->En
 fl:Nat->Int
 next:Int
 reports:Int
 moved:Int
 moves:Int
structure Cr where
 k:Nat
 N:Pt
 p:Nat
 a:Nat
 r:Nat
 e:Nat
 q:Nat
def Cr.own(N:Cr):List Nat:=[N.k,N.p,N.a,N.r,N.e,N.q]
def Cr.all(N:Cr):List Nat:=N.own++N.N.l
def ptr(g:Nat):Value:=.pointer (some ⟨g,0,none⟩)
def coreF(N:Cr)(K:KS)(X:Option Addr)(c:Nat)(j:Nat):Value :=
 if j=0 then ptr N.N.m else if j=1 then ptr N.p else if j=2 then ptr N.a else if j=3 then ptr N.r else if j=4 then ptr N.e else if j=5 then ptr N.q
 else if j=6 then .slice X K.qu.length c else if j<82 then (K.en ((j-7)/3)).cell ((j-7)%3) else if j<106 then .int .i64 (K.fl (j-82))
 else if j=106 then .int .i64 K.next else if j=107 then .int .i64 K.reports else if j=108 then .int .i64 K.moved else .int .i64 K.moves
structure CoreAt(w:World)(N:Cr)(K:KS)(X:Option Addr)(c:Nat):Prop where
 row:Row w N.k 143 110 (coreF N K X c)
 pool:PoolAt w N.p K.st K.pn
 map:MapAt w N.a K.at_ K.ow
 front:FrontAt w N.r K.fo K.fb K.fi
 health:Hl.Hr w N.e K.F
 pat:PatAt w N.q K.cur K.calls
 qu:Ly w 3 1 X K.qu.length c (qF K.qu)
section
variable{w w':World}{N:Cr}{K:KS}{X:Option Addr}{c:Nat}
theorem CoreAt.keep{S:List Nat}(h:CoreAt w N K X c)(k:Keep S w w')(hS:∀x,x∈N.own++blk X->x∉S):CoreAt w' N K X c :=
 ⟨h.row.keep k (hS _ (by simp[Cr.own])),Row.keep h.pool k (hS _ (by simp[Cr.own])),Row.keep h.map k (hS _ (by simp[Cr.own])),Row.keep h.front k (hS _ (by simp[Cr.own])),Row.keep h.health k (hS _ (by simp[Cr.own])),Row.keep h.pat k (hS _ (by simp[Cr.own])),h.qu.keep k (fun x hx=>hS x (by simp[hx]))⟩
theorem CoreAt.keep0(h:CoreAt w N K X c)(k:Keep [] w w'):CoreAt w' N K X c:=h.keep k (by simp)
theorem CoreAt.apart(h:CoreAt w N K X c){x m:Nat}{T:TypeId}{f:Nat->Value}(r:Row w x T m f)(hT:T≠143/\T≠220/\T≠188/\T≠210/\T≠223/\T≠217/\T≠3):x∉N.own++blk X:=by
 have e1:=r.ne_ h.row hT.1;have e2:=r.ne_ h.pool hT.2.1;have e3:=r.ne_ h.map hT.2.2.1;have e4:=r.ne_ h.front hT.2.2.2.1;have e5:=r.ne_ h.health hT.2.2.2.2.1;have e6:=r.ne_ h.pat hT.2.2.2.2.2.1;have e7:=h.qu.row_ne r hT.2.2.2.2.2.2.symm;simp[Cr.own,e1,e2,e3,e4,e5,e6,e7]
theorem CoreAt.lt(h:CoreAt w N K X c){x:Nat}(hx:x∈N.own++blk X):x<w.heap.size:=by
 rcases List.mem_append.1 hx with hx|hx
 ·simp only[Cr.own,List.mem_cons,List.not_mem_nil,or_false] at hx;rcases hx with rfl|rfl|rfl|rfl|rfl|rfl
  ·exact h.row.lt
  ·exact Row.lt h.pool
  ·exact Row.lt h.map
  ·exact Row.lt h.front
  ·exact Row.lt h.health
  ·exact Row.lt h.pat
 ·exact h.qu.blk_lt hx
theorem medA_apart{C:Chip}{n:Int}(h:CoreAt w N K X c)(M:MedAt w N.N C n){x:Nat}(hx:x∈N.own++blk X):N.N.m≠x/\N.N.c≠x/\N.N.f≠x/\N.N.cd≠x/\N.N.g≠x/\N.N.h≠x:=by
 obtain⟨F,rg⟩:=M.frm.cod.fs.ty;exact⟨fun e=>h.apart M.row (by decide) (e ▸ hx),fun e=>h.apart M.chip (by decide) (e ▸ hx),fun e=>h.apart M.frm.row (by decide) (e ▸ hx),fun e=>h.apart M.frm.cod.row (by decide) (e ▸ hx),fun e=>h.apart rg (by decide) (e ▸ hx),fun e=>h.apart M.frm.cod.gen (by decide) (e ▸ hx)⟩
section
variable(h:CoreAt w N K X c)
include h
theorem CoreAt.c0:w.cell? ⟨N.k,0,none⟩=some (.pointer (some ⟨N.N.m,0,none⟩)):=h.row.cell 0 (by omega)
theorem CoreAt.c1:w.cell? ⟨N.k,1,none⟩=some (.pointer (some ⟨N.p,0,none⟩)):=h.row.cell 1 (by omega)
theorem CoreAt.c2:w.cell? ⟨N.k,2,none⟩=some (.pointer (some ⟨N.a,0,none⟩)):=h.row.cell 2 (by omega)
theorem CoreAt.c3:w.cell? ⟨N.k,3,none⟩=some (.pointer (some ⟨N.r,0,none⟩)):=h.row.cell 3 (by omega)
theorem CoreAt.c4:w.cell? ⟨N.k,4,none⟩=some (.pointer (some ⟨N.e,0,none⟩)):=h.row.cell 4 (by omega)
theorem CoreAt.c5:w.cell? ⟨N.k,5,none⟩=some (.pointer (some ⟨N.q,0,none⟩)):=h.row.cell 5 (by omega)
theorem CoreAt.c106:w.cell? ⟨N.k,106,none⟩=some (.int .i64 K.next):=h.row.cell 106 (by omega)
end
structure CrNe(N:Cr)(X:Option Addr):Prop where
 kp:N.k≠N.p
 ka:N.k≠N.a
 kr:N.k≠N.r
 ke:N.k≠N.e
 kq:N.k≠N.q
 pa:N.p≠N.a
 pr:N.p≠N.r
 pe:N.p≠N.e
 pq:N.p≠N.q
 ar:N.a≠N.r
 ae:N.a≠N.e
 aq:N.a≠N.q
 re:N.r≠N.e
 rq:N.r≠N.q
 eq:N.e≠N.q
 kX:N.k∉blk X
 pX:N.p∉blk X
 aX:N.a∉blk X
 rX:N.r∉blk X
 eX:N.e∉blk X
 qX:N.q∉blk X
theorem CoreAt.ne(h:CoreAt w N K X c):CrNe N X :=
 ⟨h.row.ne_ h.pool (by decide),h.row.ne_ h.map (by decide),h.row.ne_ h.front (by decide),h.row.ne_ h.health (by decide),h.row.ne_ h.pat (by decide),
  Row.ne_ h.pool h.map (by decide),Row.ne_ h.pool h.front (by decide),Row.ne_ h.pool h.health (by decide),Row.ne_ h.pool h.pat (by decide),
  Row.ne_ h.map h.front (by decide),Row.ne_ h.map h.health (by decide),Row.ne_ h.map h.pat (by decide),Row.ne_ h.front h.health (by decide),Row.ne_ h.front h.pat (by decide),Row.ne_ h.health h.pat (by decide),
  h.qu.row_ne h.row (by decide),h.qu.row_ne h.pool (by decide),h.qu.row_ne h.map (by decide),h.qu.row_ne h.front (by decide),h.qu.row_ne h.health (by decide),h.qu.row_ne h.pat (by decide)⟩
structure On(w:World)(N:Cr)(K:KS)(P:CS)(b:Option Nat)(n:Int)(X:Option Addr)(c:Nat):Prop where
 core:CoreAt w N K X c
 med:MedA w N.N P b n
variable{P:CS}{b:Option Nat}{n:Int}
theorem On.keepMed{y:Nat}(h:On w N K P b n X c)(k:Keep [y] w w')(hy:y∈N.own++blk X):MedA w' N.N P b n:=by
 obtain⟨C,M,r⟩:=h.med;have:=medA_apart h.core M hy;exact⟨C,M.keep k (by simpa using this.1) (by simpa using this.2.1) (by simpa using this.2.2.1) (by simpa using this.2.2.2.1) (by simpa using this.2.2.2.2.1) (by simpa using this.2.2.2.2.2),r⟩
theorem On.keep0(h:On w N K P b n X c)(k:Keep [] w w'):On w' N K P b n X c:=⟨h.core.keep0 k,h.med.keep0 k⟩
theorem On.pool{st:Nat->Nat}{pn:Nat}(h:On w N K P b n X c)(k:Keep [N.p] w w')(r:PoolAt w' N.p st pn):On w' N { K with st:=st,pn:=pn } P b n X c:=by
 have d:=h.core.ne;exact⟨⟨h.core.row.keep k (by simpa using d.kp),r,Row.keep h.core.map k (by simpa using d.pa.symm),Row.keep h.core.front k (by simpa using d.pr.symm),Row.keep h.core.health k (by simpa using d.pe.symm),Row.keep h.core.pat k (by simpa using d.pq.symm),h.core.qu.keep k (fun x hx e=>d.pX (List.mem_singleton.1 e ▸ hx))⟩,h.keepMed k (by simp[Cr.own])⟩
theorem On.map{at_ ow:Nat->Nat}(h:On w N K P b n X c)(k:Keep [N.a] w w')(r:MapAt w' N.a at_ ow):On w' N { K with at_:=at_,ow:=ow } P b n X c:=by
 have d:=h.core.ne;exact⟨⟨h.core.row.keep k (by simpa using d.ka),Row.keep h.core.pool k (by simpa using d.pa),r,Row.keep h.core.front k (by simpa using d.ar.symm),Row.keep h.core.health k (by simpa using d.ae.symm),Row.keep h.core.pat k (by simpa using d.aq.symm),h.core.qu.keep k (fun x hx e=>d.aX (List.mem_singleton.1 e ▸ hx))⟩,h.keepMed k (by simp[Cr.own])⟩
theorem On.front{fo:Bool}{fb fi:Nat}(h:On w N K P b n X c)(k:Keep [N.r] w w')(r:FrontAt w' N.r fo fb fi):On w' N { K with fo:=fo,fb:=fb,fi:=fi } P b n X c:=by
 have d:=h.core.ne;exact⟨⟨h.core.row.keep k (by simpa using d.kr),Row.keep h.core.pool k (by simpa using d.pr),Row.keep h.core.map k (by simpa using d.ar),r,Row.keep h.core.health k (by simpa using d.re.symm),Row.keep h.core.pat k (by simpa using d.rq.symm),h.core.qu.keep k (fun x hx e=>d.rX (List.mem_singleton.1 e ▸ hx))⟩,h.keepMed k (by simp[Cr.own])⟩
theorem On.health{F:Nat->Int}(h:On w N K P b n X c)(k:Keep [N.e] w w')(r:Hl.Hr w' N.e F):On w' N { K with F:=F } P b n X c:=by
 have d:=h.core.ne;exact⟨⟨h.core.row.keep k (by simpa using d.ke),Row.keep h.core.pool k (by simpa using d.pe),Row.keep h.core.map k (by simpa using d.ae),Row.keep h.core.front k (by simpa using d.re),r,Row.keep h.core.pat k (by simpa using d.eq.symm),h.core.qu.keep k (fun x hx e=>d.eX (List.mem_singleton.1 e ▸ hx))⟩,h.keepMed k (by simp[Cr.own])⟩
theorem On.pat{cur:Nat}{calls:Int}(h:On w N K P b n X c)(k:Keep [N.q] w w')(r:PatAt w' N.q cur calls):On w' N { K with cur:=cur,calls:=calls } P b n X c:=by
 have d:=h.core.ne;exact⟨⟨h.core.row.keep k (by simpa using d.kq),Row.keep h.core.pool k (by simpa using d.pq),Row.keep h.core.map k (by simpa using d.aq),Row.keep h.core.front k (by simpa using d.rq),Row.keep h.core.health k (by simpa using d.eq),r,h.core.qu.keep k (fun x hx e=>d.qX (List.mem_singleton.1 e ▸ hx))⟩,h.keepMed k (by simp[Cr.own])⟩
theorem On.row{K':KS}(h:On w N K P b n X c)(k:Keep [N.k] w w'){G:Nat->Value}(r:Row w' N.k 143 110 G)(hG:∀j,j<110->G j=coreF N K' X c j)(e:K'={ K with en:=K'.en,fl:=K'.fl,next:=K'.next,reports:=K'.reports,moved:=K'.moved,moves:=K'.moves }):On w' N K' P b n X c:=by
 have d:=h.core.ne;rw[e];rw[e] at hG;exact⟨⟨r.congr hG,Row.keep h.core.pool k (by simpa using d.kp.symm),Row.keep h.core.map k (by simpa using d.ka.symm),Row.keep h.core.front k (by simpa using d.kr.symm),Row.keep h.core.health k (by simpa using d.ke.symm),Row.keep h.core.pat k (by simpa using d.kq.symm),h.core.qu.keep k (fun x hx e=>d.kX (List.mem_singleton.1 e ▸ hx))⟩,h.keepMed k (by simp[Cr.own])⟩
theorem MedAt.own{C:Chip}(h:CoreAt w N K X c)(M:MedAt w N.N C n):∀x,x∈N.own++blk X->x∉N.N.l:=fun x hx hm=>by
 have:=medA_apart h M hx;simp only[Pt.l,List.mem_cons,List.not_mem_nil,or_false] at hm;rcases hm with rfl|rfl|rfl
 ·exact this.1 rfl
 ·exact this.2.1 rfl
 ·exact this.2.2.2.2.1 rfl
theorem On.chip{P':CS}{b':Option Nat}{n':Int}(h:On w N K P b n X c)(k:Keep N.N.l w w')(m:MedA w' N.N P' b' n'):On w' N K P' b' n' X c:=by
 obtain⟨C,M,r⟩:=h.med;exact⟨h.core.keep k (MedAt.own h.core M),m⟩
theorem On.far(h:On w N K P b n X c){x m:Nat}{T:TypeId}{f:Nat->Value}(r:Row w x T m f)(hT:T≠143/\T≠220/\T≠188/\T≠210/\T≠223/\T≠217/\T≠3)
  (hT2:∀y C,MedAt w N.N C n->(y=N.N.m\/y=N.N.c\/y=N.N.f\/y=N.N.cd\/y=N.N.g\/y=N.N.h)->y≠x) (k:Keep [x] w w'):On w' N K P b n X c:=by
 obtain⟨C,M,q⟩:=h.med;have ne:=fun y hy=>hT2 y C M hy;exact⟨h.core.keep k (fun y hy hm=>h.core.apart r hT (List.mem_singleton.1 hm ▸ hy)),C,M.keep k (by simpa using ne _ (.inl rfl)) (by simpa using ne _ (.inr (.inl rfl))) (by simpa using ne _ (.inr (.inr (.inl rfl)))) (by simpa using ne _ (.inr (.inr (.inr (.inl rfl))))) (by simpa using ne _ (.inr (.inr (.inr (.inr (.inl rfl)))))) (by simpa using ne _ (.inr (.inr (.inr (.inr (.inr rfl)))))),q⟩
theorem medT{C:Chip}{x m:Nat}{T:TypeId}{f:Nat->Value}(r:Row w x T m f)(M:MedAt w N.N C n)(hT:T≠250/\T≠104/\T≠274/\T≠297/\T≠318/\T≠5):∀y,(y=N.N.m\/y=N.N.c\/y=N.N.f\/y=N.N.cd\/y=N.N.g\/y=N.N.h)->y≠x:=by
 obtain⟨F,rg⟩:=M.frm.cod.fs.ty;rintro y (rfl|rfl|rfl|rfl|rfl|rfl)
 ·exact M.row.ne_ r hT.1.symm
 ·exact Row.ne_ M.chip r hT.2.1.symm
 ·exact M.frm.row.ne_ r hT.2.2.1.symm
 ·exact M.frm.cod.row.ne_ r hT.2.2.2.1.symm
 ·exact rg.ne_ r hT.2.2.2.2.1.symm
 ·exact M.frm.cod.gen.ne_ r hT.2.2.2.2.2.symm
theorem On.away(h:On w N K P b n X c){x m:Nat}{T:TypeId}{f:Nat->Value}(r:Row w x T m f)(hT:(Nat.beq T 143||Nat.beq T 220||Nat.beq T 188||Nat.beq T 210||Nat.beq T 223||Nat.beq T 217||Nat.beq T 3||Nat.beq T 250||Nat.beq T 104||Nat.beq T 274||Nat.beq T 297||Nat.beq T 318||Nat.beq T 5)=false)(k:Keep [x] w w'):On w' N K P b n X c:=by
 simp only[Bool.or_eq_false_iff] at hT;have q:∀ {a:Nat},Nat.beq T a=false->T≠a:=fun h e=>by subst e;simp at h
 obtain⟨⟨⟨⟨⟨⟨⟨⟨⟨⟨⟨⟨h1,h2⟩,h3⟩,h4⟩,h5⟩,h6⟩,h7⟩,h8⟩,h9⟩,h10⟩,h11⟩,h12⟩,h13⟩:=hT;exact h.far r ⟨q h1,q h2,q h3,q h4,q h5,q h6,q h7⟩ (fun y C M=>medT r M ⟨q h8,q h9,q h10,q h11,q h12,q h13⟩ y) k
theorem On.keepCore(h:On w N K P b n X c)(k:Keep N.N.l w w'):CoreAt w' N K X c:=by
 obtain⟨C,M,r⟩:=h.med;exact h.core.keep k (MedAt.own h.core M)
end
section
variable{w w':World}{N:Cr}{K:KS}{X:Option Addr}{c:Nat}{P:CS}{b:Option Nat}{n:Int}
def rdK(K:KS)(p:Nat):KS:={ K with F:=Hl.rdF K.F (p/8) }
theorem pgc_one'(R:PageR){dv:Value}(h:DvOk w w' R dv)(d:Int):∀j,j<9->(pgc R.tagged R.tag R.sound dv d j).oneCell'=true:=fun j hj=>pgc_one (by
 rcases h with⟨-,O,oc,rfl,-⟩|⟨-,rfl⟩<;>rfl) j hj
theorem DvOk.keep{w2:World}{S:List Nat}{R:PageR}{dv:Value}(h:DvOk w w' R dv)(k:Keep S w' w2)(hS:∀x,x∈S->x<w.heap.size):DvOk w w2 R dv:=by
 rcases h with⟨h1,O,oc,rfl,h2,h3⟩|h
 ·exact .inl ⟨h1,O,oc,rfl,h2,h3.keep k (fun x hx hm=>by have:=hS x hm;have:=h2 x hx;omega)⟩
 ·exact .inr h
theorem DvOk.keepRow{w2:World}{x m:Nat}{T:TypeId}{f:Nat->Value}{R:PageR}{dv:Value}(h:DvOk w w' R dv)(r:Row w' x T m f)(hT:T≠5)(k:Keep [x] w' w2):DvOk w w2 R dv:=by
 rcases h with⟨h1,O,oc,rfl,h2,h3⟩|h
 ·exact .inl ⟨h1,O,oc,rfl,h2,h3.keep k (fun y hy hm=>h3.row_ne r hT.symm (List.mem_singleton.1 hm ▸ hy))⟩
 ·exact .inr h
theorem DvOk.from{w0:World}{R:PageR}{dv:Value}(h:DvOk w w' R dv)(hs:w0.heap.size<=w.heap.size):DvOk w0 w' R dv:=by
 rcases h with⟨h1,O,oc,rfl,h2,h3⟩|h
 ·exact .inl ⟨h1,O,oc,rfl,fun x hx=>by have:=h2 x hx;omega,h3⟩
 ·exact .inr h
theorem in_all_own{N:Cr}{x:Nat}(h:x∈N.own):x∈N.all:=List.mem_append_left _ h
theorem in_all_l{N:Cr}{x:Nat}(h:x∈N.N.l):x∈N.all:=List.mem_append_right _ h
theorem Keep.ofl{N:Cr}(k:Keep N.N.l w w'):Keep N.all w w':=k.mono fun _ hx=>in_all_l hx
theorem Keep.of0{N:Cr}(k:Keep [] w w'):Keep N.all w w':=k.mono (by simp)
theorem Keep.of1{N:Cr}{y:Nat}(hy:y∈N.own)(k:Keep [y] w w'):Keep N.all w w':=k.mono fun x hx=>by rw[List.mem_singleton.1 hx];exact in_all_own hy
theorem On.e_lt(h:On w N K P b n X c):N.e<w.heap.size:=Row.lt h.core.health
theorem On.l_lt(h:On w N K P b n X c):∀x,x∈N.N.l->x<w.heap.size:=fun x hx=>by
 obtain⟨C,M,r⟩:=h.med;have:=M.lt;simp only[Pt.l,List.mem_cons,List.not_mem_nil,or_false] at hx;rcases hx with rfl|rfl|rfl<;>omega
theorem cread_ok(h:On w N K P b n X c)(B:Hl.HB K.F){p:Nat}(hp:p<96):Spec Tryz.prog 69 #[.pointer (some ⟨N.k,0,none⟩),.int .i64 p] w fun v w' =>
  ∃R dv,PgRead P p R/\DvOk w w' R dv/\v=.tuple #[agg 9 (pgc R.tagged R.tag R.sound dv (R.damage:Nat)),errOf 0]/\On w' N (rdK K p) (P.readE p) b (w64 (n+1)) X c/\Keep N.all w w':=by
 have hle:=h.e_lt;refine spec_of_wpE (T:=tt) tt_ok Tryz.func69 rfl (by decide +kernel) Tryz.ntmps69 (by simp) ?_;conv=>whnf
 refine Ru.alloca (alloc_page w) ?_;intro x4 w1 hx4 hs1 r4 k1;have h1:=h.keep0 k1;conv=>whnf
 repeat ((first|(refine Ld.of h1.core.c0 ?_));conv=>whnf)
 refine Ca.of (aread_ok h1.med hp) ?_;rintro _ w2 ⟨k2,R,dv,hR,hdv,rfl,M2⟩;have h2:=h1.chip k2 M2;have r42:=r4.keep k2 (fun hx=>by have:=h.l_lt x4 hx;omega);have hd2:=hdv.from (w0:=w) k1.size;have kk2:Keep N.all w w2:=(Keep.of0 k1).trans (Keep.ofl k2);conv=>whnf
 refine Ru.alloca (alloc_page w2) ?_;intro x6 w3 hx6 hs3 r6 k3;conv=>whnf
 refine Ru.stpage r6 (pgc_one' R hdv _) ?_;intro w4 r64 k4;have q4:Keep [] w2 w4:=k3.then k4 (fun x hx=>.inr (by rw[List.mem_singleton.1 hx,hx6];exact Nat.le_refl _));have h4:=h2.keep0 q4;have r44:=r42.keep q4 (by simp);have hd4:=hd2.keep q4 (by simp);have kk4:Keep N.all w w4:=kk2.trans (Keep.of0 q4);have hsz:w.heap.size<=x4:=by omega
 have h46:x4≠x6:=by have:=r42.lt;omega
 have h6:w.heap.size<=x6:=by have:=kk2.size;omega
 clear r4 r42 r6 k3 k4 q4 k1 k2 hs1 hs3 hdv hd2 kk2 h2 h1 M2 hx6 hx4 w1 w2 w3;conv=>whnf
 repeat ((first|(refine Ld.of h4.core.c4 ?_)|refine Br.t ?_|refine Dv.q ?_|refine Ru.eql_nil0 ?_|refine CW.s ?_);conv=>whnf)
 rw[show((p:Int)/8)=((p/8:Nat):Int) by omega];refine Ca.of (Hl.read_ok w4 N.e K.F h4.core.health B (p/8) (by omega)) ?_;rintro _ w5 ⟨rfl,r5,k5⟩;have h5:=h4.health k5 r5;have ne6:x6≠N.e:=by omega
 have ne4:x4≠N.e:=by omega
 have r65:=r64.keep k5 (by simpa using ne6);have r45:=r44.keep k5 (by simpa using ne4);have hd5:=hd4.keep k5 (fun x hx=>by rw[List.mem_singleton.1 hx];exact hle);have kk5:=kk4.trans (Keep.of1 (by simp[Cr.own]) k5);conv=>whnf
 refine Ru.ldpage r65 ?_;conv=>whnf
 refine Ru.stpage r45 (pgc_one' R hd5 _) ?_;intro w6 r46 k6;have h6':=h5.away r45 (by decide) k6;have hd6:DvOk w w6 R dv:=hd5.keepRow r45 (by decide) k6;conv=>whnf
 refine Ru.ldpage r46 ?_;conv=>whnf
 exact⟨rfl,R,dv,hR,hd6,rfl,h6',kk5.then k6 (fun x hx=>by rw[List.mem_singleton.1 hx];exact .inr hsz)⟩
end
section
variable{w w':World}{N:Cr}{K:KS}{X:Option Addr}{c:Nat}{P:CS}{b:Option Nat}{n:Int}
theorem one_less(n:Int):w64 (w64 (n+1)-n)=1:=by
 unfold w64;simp[IntKind.wrap,IntKind.signed,IntKind.bits];omega
theorem w64_zero(n:Int):w64 (n-n)=0:=by
 rw[Int.sub_self];rfl
def Ends(N:Cr)(X:Option Addr)(K:KS)(P:CS)(b:Option Nat)(tr:List CS)(w:World)(w':World)(ok dead:Prop):Prop :=
 Keep (N.all++blk X) w w'/\Runs b tr (fun b'=>ok/\∃Y d n',On w' N K P b' n' Y d/\∀x,x∈blk Y->x∈blk X\/w.heap.size<=x) (fun Q=>dead/\∃n',MedX w' N.N Q n')
def EndsX(N:Cr)(X:Option Addr)(c:Nat)(K:KS)(P:CS)(b:Option Nat)(tr:List CS)(w:World)(w':World)(ok dead:Prop):Prop :=
 Keep N.all w w'/\Runs b tr (fun b'=>ok/\∃n',On w' N K P b' n' X c) (fun Q=>dead/\∃n',MedX w' N.N Q n')
def pgK(K:KS)(p:Nat)(e:Int):KS:=if e=0 then rdK K p else K
theorem cprogram_ok(h:On w N K P b n X c)(B:Hl.HB K.F){p d:Nat}{A:Option Addr}{D:Nat->Nat}{t:Tg}(hp:p<96)(hD:∀j,D j<256)(hl:Ly w 5 1 A 174 d (fun j=>.int .u8 (D j:Nat)))(ht:t.ok)(hta:t.place=p) :
  Spec Tryz.prog 109 #[.pointer (some ⟨N.k,0,none⟩),.agg t.arr,.slice A 174 d] w fun v w' =>
   EndsX N X c (pgK K p (P.pgm p t D).2.1) (P.pgm p t D).1 b (P.pgm p t D).2.2 w w' (v=errOf (P.pgm p t D).2.1) (v=errOf 7):=by
 have hle:=h.e_lt;have e0:t.cell 0=.int .i64 (p:Nat):=by
  show Value.int .i64 t.place=_;rw[hta]
 refine spec_of_wpE (T:=tt) tt_ok Tryz.func109 rfl (by decide +kernel) Tryz.ntmps109 (by simp) ?_;conv=>whnf
 refine Ru.boxtg ?_;intro x4 w1 hx4 hs1 r4 k1;have h1:=h.keep0 k1;have l1:=hl.keep0 k1;conv=>whnf
 repeat ((first|(refine Ld.of h1.core.c0 ?_));conv=>whnf)
 refine Ca.of (areads_ok h1.med) ?_;rintro _ _ ⟨rfl,rfl⟩;conv=>whnf
 refine CW.held (fun w'=>CoreAt w' N K X c/\Row w' x4 67 5 t.cell) [] (.take 0 (.take 1 (.take 2 (.take 3 (.take 4 (.take 5 (.take 6 (.take 7 (.one 8 (.take 9 (.done))))))))))) tt_ok (by kernel_rfl) (by kernel_rfl) (by kernel_rfl) ?_ ?_
 ·exact⟨h1.core.keep0 ((Keep.refl _ _).drewN 1),Row.drewN r4 1⟩
 have q1:=(Keep.refl [] w1).drewN 1;have h2:=h1.keep0 q1;have l2:=l1.keep0 q1;have r2:=r4.keep q1 (by simp);have k2:Keep [] w (w1.drewN 1):=k1.trans q1;clear h1 l1 r4 k1 q1;generalize w1.drewN 1=w2 at *;conv=>whnf
 repeat ((first|(refine LdQ.of (fun _ h=>h.1.c0) ?_)|(refine LdQ.at (j:=0) (by omega) (fun _ h=>(Row.cell h.2 0 (by omega)).trans (congrArg some e0)) ?_)|(refine RuQ.ldtg (fun _ h=>h.2) ?_));conv=>whnf)
 refine Ca.of (apgm_ok h2.med (A:=A) (dd:=d) hp hD l2.rd1 hl.1 (fun x hx=>?_) ht hta) ?_
 ·obtain⟨C,M,q⟩:=h2.med;obtain⟨F,rg⟩:=M.frm.cod.fs.ty;have hx:x.block∈blk A:=by rw[hx];exact List.mem_singleton.2 rfl
  exact⟨fun e=>l2.row_ne M.row (by decide) (e ▸ hx),fun e=>l2.row_ne M.chip (by decide) (e ▸ hx),fun e=>l2.row_ne rg (by decide) (e ▸ hx)⟩
 rintro _ w3 ⟨k3,hr⟩;have c3:=h2.keepCore k3;have r3:=r2.keep k3 (fun hx=>by have:=h.l_lt x4 hx;omega);have kk3:Keep N.all w w3:=(Keep.of0 k2).trans (Keep.ofl k3);have hx4w:w.heap.size<=x4:=by omega
 clear l2 r2 k2 hx4 hs1;generalize P.pgm p t D=Z at *;obtain⟨Q,e,tr⟩:=Z;rcases hr with⟨hf,rfl,M3⟩|⟨x,hx,hb,rfl,M3⟩
 ·have h3:On w3 N K Q (less b tr.length) (one e n) X c:=⟨c3,M3⟩;by_cases he:e=0
  ·subst he;conv=>whnf
   refine⟨⟨c3,r3⟩,?_⟩;conv=>whnf
   repeat ((first|(refine Ld.of c3.c0 ?_)|refine CW.s ?_);conv=>whnf)
   refine Ca.of (areads_ok M3) ?_;rintro _ _ ⟨rfl,rfl⟩;conv=>whnf
   repeat ((first|(refine Ar.i64w ?_));conv=>whnf)
   rw[show w64 (one 0 n-n)=1 from one_less n];refine CW.loop (ι:=Nat) (fun i w'=>i<=1/\On w' N (if i=0 then K else rdK K p) Q (less b tr.length) (one 0 n) X c/\Row w' x4 67 5 t.cell/\Keep N.all w w') (fun i=>[(0,.pointer (some ⟨N.k,0,none⟩)),(4,.pointer (some ⟨x4,0,none⟩)),(8,errOf 0),(29,.int .i64 1),(30,.int .i64 i)]) (fun i=>1-i) 0 tt_ok ⟨by omega,h3,r3,kk3⟩ ⟨rfl,rfl,rfl,rfl,rfl,trivial⟩ ?_;rintro i wr ⟨hi,hr,rr,kr⟩;by_cases hlt:i<1
   ·obtain rfl:i=0:=by omega
    rw[if_pos rfl] at hr;conv=>whnf
    repeat ((first|refine Br.t ?_|refine CW.s ?_);conv=>whnf)
    refine CW.held (fun w'=>w'.cell? ⟨N.k,4,none⟩=some (.pointer (some ⟨N.e,0,none⟩))/\Row w' x4 67 5 t.cell) [] (.take 0 (.take 1 (.take 2 (.take 3 (.take 4 (.take 5 (.take 6 (.one 7 (.done))))))))) tt_ok (by kernel_rfl) (by kernel_rfl) (by kernel_rfl) ?_ ?_
    ·exact⟨hr.core.c4,Row.drewN rr 1⟩
    have q1:=(Keep.refl [] wr).drewN 1;have hr2:=hr.keep0 q1;have rr2:=rr.keep q1 (by simp);have kr2:Keep N.all w (wr.drewN 1):=kr.trans (Keep.of0 q1);clear hr rr kr q1;generalize wr.drewN 1=w4 at *;conv=>whnf
    repeat ((first|(refine LdQ.of (fun _ h=>h.1) ?_)|(refine LdQ.at (j:=0) (by omega) (fun _ h=>(Row.cell h.2 0 (by omega)).trans (congrArg some e0)) ?_)|refine Dv.q ?_);conv=>whnf)
    rw[show((p:Int)/8)=((p/8:Nat):Int) by omega];refine Ca.of (Hl.read_ok w4 N.e K.F hr2.core.health B (p/8) (by omega)) ?_;rintro _ w5 ⟨rfl,r5,k5⟩;have h5:=hr2.health k5 r5;have rr5:=rr2.keep k5 (by simp;omega);conv=>whnf
    refine⟨⟨h5.core.c4,rr5⟩,?_⟩;conv=>whnf
    repeat ((first|refine Ar.la ?_);conv=>whnf)
    exact⟨1,⟨by omega,h5,rr5,kr2.trans (Keep.of1 (by simp[Cr.own]) k5)⟩,⟨rfl,rfl,rfl,rfl,vi (by omega),trivial⟩,by simp only;omega⟩
   ·obtain rfl:i=1:=by omega
    rw[if_neg (by omega)] at hr;conv=>whnf
    repeat ((first|refine Br.f ?_|refine CW.s ?_);conv=>whnf)
    exact⟨rfl,kr,.inl ⟨hf,rfl,_,hr⟩⟩
  ·have ho:one e n=n:=if_neg he;rw[ho] at h3 M3;conv=>whnf
   refine⟨⟨c3,r3⟩,?_⟩;conv=>whnf
   repeat ((first|(refine Ld.of c3.c0 ?_)|refine CW.s ?_);conv=>whnf)
   refine Ca.of (areads_ok M3) ?_;rintro _ _ ⟨rfl,rfl⟩;conv=>whnf
   repeat ((first|(refine Ar.i64w ?_));conv=>whnf)
   rw[w64_zero];refine CW.loop (ι:=Nat) (fun i w'=>w'=w3) (fun i=>[(8,errOf e),(29,.int .i64 0),(30,.int .i64 0)]) (fun i=>0) 0 tt_ok rfl ⟨rfl,rfl,rfl,trivial⟩ ?_;rintro i wr rfl;conv=>whnf
   repeat ((first|refine Br.f ?_|refine CW.s ?_);conv=>whnf)
   refine⟨rfl,kk3,.inl ⟨hf,rfl,n,?_⟩⟩;unfold pgK;rw[if_neg he];exact h3
 ·conv=>whnf
  refine⟨⟨c3,r3⟩,?_⟩;conv=>whnf
  repeat ((first|(refine Ld.of c3.c0 ?_)|refine CW.s ?_);conv=>whnf)
  refine Ca.of (xreads_ok M3) ?_;rintro _ _ ⟨rfl,rfl⟩;conv=>whnf
  repeat ((first|(refine Ar.i64w ?_));conv=>whnf)
  rw[w64_zero];refine CW.loop (ι:=Nat) (fun i w'=>w'=w3) (fun i=>[(8,errOf 7),(29,.int .i64 0),(30,.int .i64 0)]) (fun i=>0) 0 tt_ok rfl ⟨rfl,rfl,rfl,trivial⟩ ?_;rintro i wr rfl;conv=>whnf
  repeat ((first|refine Br.f ?_|refine CW.s ?_);conv=>whnf)
  exact⟨rfl,kk3,.inr ⟨x,hx,hb,rfl,n,M3⟩⟩
end
section
variable{w w':World}{N:Cr}{K:KS}{X:Option Addr}{c:Nat}{P:CS}{b:Option Nat}{n:Int}
theorem coreF_next(x:Int)(j:Nat)(hj:j<110):put (coreF N K X c) 106 (.int .i64 x) j=coreF N { K with next:=x } X c j:=by
 unfold put;by_cases h:j=106
 ·subst h;rfl
 ·rw[if_neg h];unfold coreF;simp only[if_neg h]
def sqK(K:KS):KS:={ K with next:=K.next+1 }
theorem cseq_ok(h:On w N K P b n X c)(hn:0<=K.next/\K.next<1099511627775):Spec Tryz.prog 107 #[.pointer (some ⟨N.k,0,none⟩)] w fun v w'=>v=.tuple #[.int .i64 K.next,errOf 0]/\On w' N (sqK K) P b n X c/\Keep N.all w w':=by
 refine spec_of_wpE (T:=tt) tt_ok Tryz.func107 rfl (by decide +kernel) Tryz.ntmps107 (by simp) ?_;conv=>whnf
 repeat ((first|(refine Ld.of h.core.c106 ?_)|refine Ar.la ?_|refine Br.n ?_|refine CW.s ?_);conv=>whnf)
 refine Sd.rowAt h.core.row 106 (by omega) (by omega) rfl ?_;intro w2 r2 k2;have h2:On w2 N (sqK K) P b n X c:=h.row k2 r2 (fun j hj=>coreF_next (K.next+1) j hj) rfl;have c2:w2.cell? ⟨N.k,106,none⟩=some (.int .i64 (K.next+1)):=h2.core.c106;conv=>whnf
 repeat ((first|(refine Ld.of c2 ?_)|refine Ar.la ?_);conv=>whnf)
 refine⟨rfl,?_,h2,Keep.of1 (by simp[Cr.own]) k2⟩;show Value.tuple #[.int .i64 (K.next+1-1),errOf 0]=_;rw[Int.add_sub_cancel]
theorem cstates_ok(h:On w N K P b n X c):Spec Tryz.prog 90 #[.pointer (some ⟨N.p,0,none⟩)] w fun v w'=>∃Y e,v=.slice Y 12 e/\Hl.OwnI w w' Y 12 e (fun j=>(K.st j:Nat)):=by
 refine spec_of_wpE (T:=tt) tt_ok Tryz.func90 rfl (by decide +kernel) Tryz.ntmps90 (by simp) ?_;conv=>whnf
 refine Ru.sliceArr (sz:=1) Tryz.underlying70 (by kernel_rfl) ?_;conv=>whnf
 refine Ca.of (Hl.clone_ok ⟨N.p,0+0,none⟩ 12 12 (fun j=>(K.st j:Nat)) w (fun _=>⟨N.p,0,rfl,fun j hj=>by rw[Nat.zero_add];exact PoolAt.cst h.core.pool hj⟩) (by omega) (by omega)) ?_;rintro _ w2 ⟨Y,e,rfl,O⟩;conv=>whnf
 exact⟨rfl,Y,e,rfl,O⟩
theorem En.cell_one(e:En){j:Nat}:(e.cell j).oneCell'=true:=by
 unfold En.cell;split
 ·rfl
 ·split<;>rfl
theorem coreF_en(o:Nat)(ho:o<=24)(e:En)(j:Nat)(hj:j<110):lay (coreF N K X c) (7+3*o) 3 e.cell j=coreF N { K with en:=updf K.en o e } X c j:=by
 unfold lay;by_cases h:7+3*o<=j/\j<7+3*o+3
 ·rw[if_pos h];unfold coreF;simp only;rw[if_neg (by omega),if_neg (by omega),if_neg (by omega),if_neg (by omega),if_neg (by omega),if_neg (by omega),if_neg (by omega),if_pos (by omega),show(j-7)/3=o by omega];unfold updf;rw[if_pos rfl,show(j-7)%3=j-(7+3*o) by omega]
 ·rw[if_neg h];unfold coreF;simp only;by_cases h7:7<=j/\j<82
  ·have:(j-7)/3≠o:=by omega
   unfold updf;rw[if_neg this]
  ·by_cases h8:j<82
   ·have e0:j=0\/j=1\/j=2\/j=3\/j=4\/j=5\/j=6:=by omega
    rcases e0 with rfl|rfl|rfl|rfl|rfl|rfl|rfl<;>rfl
   ·simp only[if_neg h8]
theorem size_en:(Tryz.prog.info? 140).map (·.size)=some 3:=by kernel_rfl
theorem build_en(s k:Int)(l:Bool)(w:World):(Instr.build 140 #[(0,.int .i64 s),(1,.int .i64 k),(2,.bool l)]).run Tryz.prog w=.ok (.agg #[.int .i64 s,.int .i64 k,.bool l]) w:=by kernel_rfl
theorem en_agg(e:En):Value.agg #[.int .i64 e.seq,.int .i64 e.copy,.bool e.lost]=agg 3 e.cell:=by
 unfold agg;simp[Array.range,Array.ofFn_succ,En.cell]
def stK(K:KS)(t:Tg)(o p:Nat):KS:={ K with at_:=(setAt K.at_ K.ow o p).1,ow:=(setAt K.at_ K.ow o p).2,en:=updf K.en o ⟨t.seq,t.copy,t.lost⟩ }
theorem stands_ok(h:On w N K P b n X c)(W:MapWf K.at_ K.ow){t:Tg}{o p:Nat}(ho:o<=24)(hp:p<96)(hto:t.of=o)(htp:t.place=p) :
  Spec Tryz.prog 160 #[.pointer (some ⟨N.k,0,none⟩),.agg t.arr] w fun v w'=>v=.tuple #[]/\On w' N (stK K t o p) P b n X c/\Keep N.all w w':=by
 have e0:t.cell 0=.int .i64 (p:Nat):=by
  show Value.int .i64 t.place=_;rw[htp]
 have e1:t.cell 1=.int .i64 (o:Nat):=by
  show Value.int .i64 t.of=_;rw[hto]
 refine spec_of_wpE (T:=tt) tt_ok Tryz.func160 rfl (by decide +kernel) Tryz.ntmps160 (by simp) ?_;conv=>whnf
 refine Ru.boxtg ?_;intro x3 w1 hx3 hs1 r3 k1;have h1:=h.keep0 k1;conv=>whnf
 refine CW.held (fun w'=>w'.cell? ⟨N.k,2,none⟩=some (.pointer (some ⟨N.a,0,none⟩))/\Row w' x3 67 5 t.cell) [] (.take 0 (.take 1 (.take 2 (.take 3 (.take 4 (.take 5 (.take 6 (.take 7 (.one 8 (.done)))))))))) tt_ok (by kernel_rfl) (by kernel_rfl) (by kernel_rfl) ?_ ?_
 ·exact⟨h1.core.c2,Row.drewN r3 1⟩
 have q1:=(Keep.refl [] w1).drewN 1;have h2:=h1.keep0 q1;have r2:=r3.keep q1 (by simp);have kk:Keep N.all w (w1.drewN 1):=(Keep.of0 k1).trans (Keep.of0 q1);clear h1 r3 k1 q1;generalize w1.drewN 1=w2 at *;have hx:N.a≠x3:=by have:=Row.lt h.core.map;omega
 have hk:N.k≠x3:=by have:=Row.lt h.core.row;omega
 clear hx3 hs1 w1;conv=>whnf
 repeat ((first|(refine LdQ.of (fun _ h=>h.1) ?_)|(refine LdQ.at (j:=0) (by omega) (fun _ h=>(Row.cell h.2 0 (by omega)).trans (congrArg some e0)) ?_)|(refine LdQ.at (j:=1) (by omega) (fun _ h=>(Row.cell h.2 1 (by omega)).trans (congrArg some e1)) ?_));conv=>whnf)
 refine Ca.of (mset_ok h2.core.map W o p ho hp) ?_;rintro _ w3 ⟨rfl,m3,k3⟩;have h3:=h2.map k3 m3;have r33:=r2.keep k3 (by simpa using hx.symm);have kk3:=kk.trans (Keep.of1 (by simp[Cr.own]) k3);clear h2 r2 kk k3 m3 w2;refine⟨⟨h3.core.c2,r33⟩,?_⟩;conv=>whnf
 refine CW.held (fun w'=>Row w' x3 67 5 t.cell) [] (.take 0 (.take 1 (.take 2 (.take 3 (.take 4 (.take 5 (.take 6 (.take 7 (.take 8 (.take 9 (.take 10 (.take 11 (.take 12 (.one 13 (.done))))))))))))))) tt_ok (by kernel_rfl) (by kernel_rfl) (by kernel_rfl) ?_ ?_
 ·exact Row.drewN r33 1
 have q1:=(Keep.refl [] w3).drewN 1;have h4:=h3.keep0 q1;have r4:=r33.keep q1 (by simp);have kk4:Keep N.all w (w3.drewN 1):=kk3.trans (Keep.of0 q1);clear h3 r33 kk3 q1;generalize w3.drewN 1=w4 at *;conv=>whnf
 repeat ((first|(refine LdQ.at (j:=1) (by omega) (fun _ h=>(Row.cell h 1 (by omega)).trans (congrArg some e1)) ?_)|(refine LdQ.at (j:=2) (by omega) (fun _ h=>(Row.cell h 2 (by omega))) ?_)|(refine LdQ.at (j:=3) (by omega) (fun _ h=>(Row.cell h 3 (by omega))) ?_)|(refine LdQ.at (j:=4) (by omega) (fun _ h=>(Row.cell h 4 (by omega))) ?_)|(refine RuQ.of (v:=agg 3 (En.cell ⟨t.seq,t.copy,t.lost⟩)) (fun w _=>(build_en t.seq t.copy t.lost w).trans (by rw[<-en_agg])) ?_)|(refine Ix.of o (by omega) (by omega) ?_));conv=>whnf)
 rw[show 0+7+o*3=7+3*o by omega];refine Ru.sta h4.core.row size_en (by omega) (fun j _=>En.cell_one _) ?_;intro w5 r5 k5;have h5:On w5 N (stK K t o p) P b n X c:=h4.row (K':=stK K t o p) k5 r5 (fun j hj=>coreF_en o ho ⟨t.seq,t.copy,t.lost⟩ j hj) rfl;refine⟨r4.keep k5 (by simpa using hk.symm),?_⟩;conv=>whnf
 exact⟨rfl,rfl,h5,kk4.trans (Keep.of1 (by simp[Cr.own]) k5)⟩
def anK(K:KS)(t:Tg)(o p:Nat):KS:=if o=24 then { stK K t o p with F:=Hl.ntF K.F,calls:=0 } else stK K t o p
theorem anew_ok(h:On w N K P b n X c)(W:MapWf K.at_ K.ow){t:Tg}{o p:Nat}(ho:o<=24)(hp:p<96)(hto:t.of=o)(htp:t.place=p) :
  Spec Tryz.prog 110 #[.pointer (some ⟨N.k,0,none⟩),.agg t.arr] w fun v w'=>v=.tuple #[]/\On w' N (anK K t o p) P b n X c/\Keep N.all w w':=by
 have e1:t.cell 1=.int .i64 (o:Nat):=by
  show Value.int .i64 t.of=_;rw[hto]
 refine spec_of_wpE (T:=tt) tt_ok Tryz.func110 rfl (by decide +kernel) Tryz.ntmps110 (by simp) ?_;conv=>whnf
 refine Ru.boxtg ?_;intro x3 w1 hx3 hs1 r3 k1;have h1:=h.keep0 k1;conv=>whnf
 refine Ru.ldtg r3 ?_;conv=>whnf
 refine Ca.of (stands_ok h1 W ho hp hto htp) ?_;rintro _ w2 ⟨rfl,h2,k2⟩;have hx:x3∉N.all:=fun hm=>by
  have:x3<w.heap.size:=by
   rcases List.mem_append.1 hm with hm|hm
   ·exact h.core.lt (List.mem_append_left _ hm)
   ·exact h.l_lt _ hm
  omega
 have r2:=r3.keep k2 hx;have kk:Keep N.all w w2:=(Keep.of0 k1).trans k2;have c1:w2.cell? ⟨x3,1,none⟩=some (.int .i64 (o:Nat)):=(Row.cell r2 1 (by omega)).trans (congrArg some e1);unfold anK;by_cases h24:o=24
 ·rw[if_pos h24];subst h24;conv=>whnf
  repeat ((first|(refine Ld.of c1 ?_)|(refine Ld.of h2.core.c4 ?_)|refine Br.t ?_);conv=>whnf)
  refine Ca.of (Hl.noted_ok w2 N.e _ h2.core.health) ?_;rintro _ w3 ⟨rfl,r3',k3⟩;have h3:=h2.health k3 r3';conv=>whnf
  repeat ((first|(refine Ld.of h3.core.c5 ?_));conv=>whnf)
  refine Ca.of (pnoted_ok h3.core.pat) ?_;rintro _ w4 ⟨rfl,r4,k4⟩;have h4:=h3.pat k4 r4;conv=>whnf
  exact⟨rfl,rfl,h4,(kk.trans (Keep.of1 (by simp[Cr.own]) k3)).trans (Keep.of1 (by simp[Cr.own]) k4)⟩
 ·rw[if_neg h24];conv=>whnf
  repeat ((first|(refine Ld.of c1 ?_)|refine Br.n ?_);conv=>whnf)
  exact⟨rfl,rfl,h2,kk⟩
def shK(K:KS):KS:=if K.fo then { K with st:=setSt K.st K.fb 2,fo:=false,fb:=0,fi:=0 } else K
theorem shut_ok(h:On w N K P b n X c)(hb:K.fb<12):Spec Tryz.prog 145 #[.pointer (some ⟨N.k,0,none⟩)] w fun v w'=>v=.tuple #[]/\On w' N (shK K) P b n X c/\Keep N.all w w':=by
 refine spec_of_wpE (T:=tt) tt_ok Tryz.func145 rfl (by decide +kernel) Tryz.ntmps145 (by simp) ?_;conv=>whnf
 repeat ((first|(refine Ld.of h.core.c3 ?_));conv=>whnf)
 refine Ca.of (fblock_ok h.core.front) ?_;rintro _ _ ⟨rfl,rfl⟩;unfold shK
 cases hfo:K.fo with
 | true =>
  rw[if_pos rfl,if_pos rfl];conv=>whnf
  repeat ((first|(refine Ld.of h.core.c1 ?_)|refine Br.t ?_);conv=>whnf)
  refine Ca.of (pset_ok h.core.pool K.fb 2 hb (by omega)) ?_;rintro _ w2 ⟨⟨e,rfl⟩,r2,k2⟩;have h2:=h.pool k2 r2;conv=>whnf
  repeat ((first|(refine Ld.of h2.core.c3 ?_));conv=>whnf)
  refine Ca.of (fclose_ok h2.core.front) ?_;rintro _ w3 ⟨rfl,r3,k3⟩;have h3:=h2.front k3 r3;conv=>whnf
  exact⟨rfl,rfl,h3,(Keep.of1 (by simp[Cr.own]) k2).trans (Keep.of1 (by simp[Cr.own]) k3)⟩
 | false =>
  rw[if_neg (by simp),if_neg (by simp)];conv=>whnf
  repeat ((first|refine Br.f ?_);conv=>whnf)
  exact⟨rfl,rfl,h,Keep.refl _ _⟩
end
section
variable{w w':World}{N:Cr}{K:KS}{X:Option Addr}{c:Nat}{P:CS}{b:Option Nat}{n:Int}
def stC(K:KS)(s also:Int):Cp:=⟨K.fl,s,fun b=>decide (K.st b=3)||decide ((b:Int)=also),K.cur,K.F,fun j=>K.F (12+j)⟩
def bldF(f:Nat->Value)(s q:Int)(j:Nat):Value:=cond (Nat.blt j 24) (f j) (cond (Nat.beq j 24) (.int .i64 s) (cond (Nat.blt j 37) (.bool false) (cond (Nat.beq j 37) (.int .i64 q) (.int .i64 0))))
theorem build_cp(f:Nat->Value)(s q:Int)(w:World):(Instr.build 116 #[(0,agg 24 f),(1,.int .i64 s),(3,.int .i64 q)]).run Tryz.prog w=.ok (.agg ((Array.range 62).map (bldF f s q))) w:=by kernel_rfl
theorem coreF_fl{j:Nat}(h:j<24):coreF N K X c (82+j)=.int .i64 (K.fl j):=by
 unfold coreF;rw[if_neg (by omega),if_neg (by omega),if_neg (by omega),if_neg (by omega),if_neg (by omega),if_neg (by omega),if_neg (by omega),if_neg (by omega),if_pos (by omega),show 82+j-82=j by omega]
theorem sl12_run(x o:Nat)(w:World):(Instr.sliceAt 70 (.pointer (some ⟨x,0+o,none⟩)) none none none).run Tryz.prog w=.ok (.slice (some ⟨x,o,none⟩) 12 12) w:=by
 rw[Nat.zero_add];obtain⟨v,w',h1,h2,h3⟩:=Ru.sliceArr (P:=Tryz.prog) (w:=w) (g:=x) (o:=o) (sz:=1) (K:=fun v w'=>v=.slice (some ⟨x,o,none⟩) 12 12/\w'=w) Tryz.underlying70 (by kernel_rfl) ⟨rfl,rfl⟩;rw[h1,h2,h3]
theorem bldF_one{f:Nat->Int}{s q:Int}(j:Nat):(bldF (fun j=>.int .i64 (f j)) s q j).oneCell'=true:=by
 unfold bldF
 cases Nat.blt j 24<;>cases Nat.beq j 24<;>cases Nat.blt j 37<;>cases Nat.beq j 37<;>rfl
def scF(K:KS)(s also:Int)(k j:Nat):Value :=
 if j<25 then (stC K s also).cell j else if j<25+k then (stC K s also).cell j else if j<37 then .bool false else if j=37 then .int .i64 K.cur else .int .i64 0
theorem scF_zero{K:KS}{s also:Int}(j:Nat)(hj:j<62):lay Cp.zero.cell 0 62 (bldF (fun j=>.int .i64 (K.fl j)) s K.cur) j=scF K s also 0 j:=by
 unfold lay;rw[if_pos (by omega),Nat.sub_zero];unfold bldF scF;rw[cond_if (blt_dec _ _),cond_if (beq_dec _ _),cond_if (blt_dec _ _),cond_if (beq_dec _ _)];by_cases h:j<24
 ·rw[if_pos h,if_pos (by omega),(stC K s also).cell_fl h];rfl
 ·rw[if_neg h];by_cases h2:j=24
  ·subst h2;rfl
  ·rw[if_neg h2,if_neg (show ¬j<25 by omega),if_neg (show ¬j<25+0 by omega)]
theorem scF_put{K:KS}{s also:Int}(k:Nat)(hk:k<12)(j:Nat):put (scF K s also k) (25+k) (.bool (decide (K.st k=3)||decide ((k:Int)=also))) j=scF K s also (k+1) j:=by
 unfold put;by_cases h:j=25+k
 ·subst h;unfold scF;rw[if_pos rfl,if_neg (by omega),if_pos (by omega),(stC K s also).cell_bad hk];rfl
 ·rw[if_neg h];unfold scF;by_cases h1:j<25
  ·rw[if_pos h1,if_pos h1]
  ·rw[if_neg h1,if_neg h1];by_cases h2:j<25+k
   ·rw[if_pos h2,if_pos (by omega)]
   ·have h5:¬j<25+(k+1):=by omega
    rw[if_neg h2,if_neg h5]
theorem scF_end{K:KS}{s also:Int}(j:Nat)(hj:j<62):lay (lay (scF K s also 12) 38 12 (fun j=>.int .i64 (K.F j))) 50 12 (fun j=>.int .i64 (K.F (12+j))) j=(stC K s also).cell j:=by
 unfold lay;by_cases h:50<=j
 ·rw[if_pos (by omega)];have e:j=50+(j-50):=by omega
  rw[e,(stC K s also).cell_sc (by omega),show 50+(j-50)-50=j-50 by omega];rfl
 ·rw[if_neg (by omega)];by_cases h2:38<=j
  ·rw[if_pos (by omega)];have e:j=38+(j-38):=by omega
   rw[e,(stC K s also).cell_rd (by omega),show 38+(j-38)-38=j-38 by omega];rfl
  ·rw[if_neg (by omega)];unfold scF;by_cases h3:j<25
   ·rw[if_pos h3]
   ·rw[if_neg h3];by_cases h4:j<37
    ·rw[if_pos (by omega)]
    ·rw[if_neg (by omega),if_neg h4,if_pos (by omega),show j=37 by omega];rfl
theorem cstate_ok(h:On w N K P b n X c)(s also:Int):Spec Tryz.prog 65 #[.pointer (some ⟨N.k,0,none⟩),.int .i64 s,.int .i64 also] w fun v w'=>v=agg 62 (stC K s also).cell/\Keep [] w w':=by
 refine spec_of_wpE (T:=tt) tt_ok Tryz.func65 rfl (by decide +kernel) Tryz.ntmps65 (by simp) ?_;conv=>whnf
 refine Ru.alloca (alloc_cp w) ?_;intro x6 w1 hx6 hs1 r6 k1;have h1:=h.keep0 k1;conv=>whnf
 refine CW.held (fun w'=>CoreAt w' N K X c) [12] (.take 0 (.take 1 (.take 2 (.take 3 (.take 4 (.take 5 (.take 6 (.take 7 (.take 8 (.two 9 (.take 10 (.one 11 (.one 12 (.done)))) 11 (.one 9 (.take 10 (.one 12 (.done)))))))))))))) tt_ok (by kernel_rfl) (by kernel_rfl) (by kernel_rfl) ?_ ?_
 ·exact h1.core.keep0 ((Keep.refl _ _).drewN 1)
 have q1:=(Keep.refl [] w1).drewN 1;have h2:=h1.keep0 q1;have r62:=r6.keep q1 (by simp);have k2:Keep [] w (w1.drewN 1):=k1.trans q1;clear h1 r6 k1 q1;have hs2:(w1.drewN 1).heap.size=w1.heap.size:=rfl;generalize w1.drewN 1=w2 at *;conv=>whnf
 repeat' ((first|(refine And.intro ?_ ?_)|(refine LdQ.of (fun _ h=>h.c5) ?_)|(refine RuQ.of (v:=agg 24 (fun j=>.int .i64 (K.fl j))) (fun w h=>run_ldaC h.row Tryz.underlying114 rfl arr24_size (by omega) (fun j hj=>by rw[show 0+82+j=82+j by omega];exact coreF_fl hj)) ?_)|(refine RuQ.of (fun w _=>build_cp _ _ _ w) ?_)|refine HS.t ?_|refine Br.t ?_|refine Br.f ?_|refine Pk.f ?_|refine Pk.t ?_|refine Pk.and ?_|refine Pk.or ?_|refine Ix.n ?_|refine Ix.of _ (by rfl) (by omega) ?_|refine Ix.i ?_|refine Ar.la ?_|refine Ar.lb ?_|refine Ar.lc ?_|refine Dv.q ?_|refine Dv.r ?_|refine Br.y ?_|refine Br.n ?_|refine Br.ny ?_|refine Br.nn ?_|refine Br.is (by assumption) ?_|refine Br.isnt (by assumption) ?_|refine Ld.of (by assumption) ?_|refine Ru.neq_nil0 ?_|refine Ru.n1 ?_|refine Ru.eql_nil0 ?_|refine Ru.e1 ?_|refine Ru.e2 ?_|refine Ru.e3 ?_|refine Ru.n2 ?_|refine Ru.n3 ?_|refine Ru.neq_nil rfl ?_|refine Ru.eql_nil rfl ?_|refine Ru.eql_err rfl (by decide) ?_|refine Ru.neq_err rfl (by decide) ?_|refine Ru.be ?_|refine Ru.bn ?_|refine RuQ.be ?_|refine RuQ.bn ?_|refine CW.s ?_|refine Br.d (fun _=>?_) (fun _=>?_)|refine Br.nd (fun _=>?_) (fun _=>?_)|refine Br.mk (fun _=>?_) (fun _=>?_))<;>conv=>whnf)
 case' refine_2.refine_1 =>
  refine Ca.of (pcursor_ok h2.core.pat) ?_;rintro _ _ ⟨rfl,rfl⟩;refine⟨h2.core,?_⟩;conv=>whnf
  repeat ((first|(refine RuQ.of (fun w _=>build_cp _ _ _ w) ?_));conv=>whnf)
  refine Ru.alloca (alloc_cp w2) ?_;intro x7 w3 hx7 hs3 r7 k3;have h3:=h2.keep0 k3;refine⟨h3.core,?_⟩;conv=>whnf
 case' refine_2.refine_2 =>
  refine Ru.alloca (alloc_cp w2) ?_;intro x7 w3 hx7 hs3 r7 k3;have h3:=h2.keep0 k3;refine⟨h3.core,?_⟩;conv=>whnf
  refine Ca.of (pcursor_ok h3.core.pat) ?_;rintro _ _ ⟨rfl,rfl⟩;refine⟨h3.core,?_⟩;conv=>whnf
  repeat ((first|(refine RuQ.of (fun w _=>build_cp _ _ _ w) ?_));conv=>whnf)
 all_goals
  have r63:=r62.keep k3 (by simp);refine Ru.sta r7 size_cp (by omega) (fun j _=>bldF_one j) ?_;intro w4 r4 k4;have k34:Keep [] w2 w4:=k3.then k4 (fun x hx=>.inr (by rw[List.mem_singleton.1 hx,hx7];exact Nat.le_refl _));have h4:=h2.keep0 k34;have r64:=r62.keep k34 (by simp);have kk4:Keep [] w w4:=k2.trans k34;have h67:x6≠x7:=by have:=r62.lt;omega
  have hw6:w.heap.size<=x6:=by omega
  have hw7:w.heap.size<=x7:=by omega
  have rs:Row w4 x7 116 62 (scF K s also 0):=r4.congr (fun j hj=>scF_zero j hj);clear r4 k4 k34 r7 k3 r63 r62 h2 k2 hs2 hs1 hs3 hx6 hx7 h3 w3 w2 w1;conv=>whnf
  repeat ((first|(refine Ld.of h4.core.c1 ?_)|refine CW.s ?_);conv=>whnf)
  refine Ca.of (cstates_ok h4) ?_;rintro _ w5 ⟨Y,e,rfl,O⟩;have h5:=h4.keep0 O.keep;have r65:=r64.keep O.keep (by simp);have rs5:=rs.keep O.keep (by simp);have kk5:=kk4.trans O.keep;have hY:x7∉blk Y:=fun hm=>by have:=O.new x7 hm;have:=rs.lt;omega
  conv=>whnf
  refine CW.loop (ι:=Nat) (fun i w'=>i<=12/\On w' N K P b n X c/\Row w' x6 116 62 Cp.zero.cell/\Row w' x7 116 62 (scF K s also i)/\Ly w' 3 1 Y 12 e (fun j=>.int .i64 (K.st j:Nat))/\Keep [] w w') (fun i=>[(0,.pointer (some ⟨N.k,0,none⟩)),(2,.int .i64 also),(6,.pointer (some ⟨x6,0,none⟩)),(7,.pointer (some ⟨x7,0,none⟩)),(25,.slice Y 12 e),(26,.int .i64 12),(27,.int .i64 i)]) (fun i=>12-i) 0 tt_ok ⟨by omega,h5,r65,rs5,O.ly,kk5⟩ ⟨rfl,rfl,rfl,rfl,rfl,rfl,rfl,trivial⟩ ?_;clear O h5 r65 rs5 kk5 h4 r64 rs kk4 w5 w4;rintro i wr ⟨hi,hh,r6,r7,ly,kk⟩;by_cases hlt:i<12
  ·obtain⟨g,rfl,cg,-⟩:=ly.at1 hlt;by_cases h3:K.st i=3
   ·have hp:=scF_put (K:=K) (s:=s) (also:=also) i hlt;simp only[h3,decide_true,Bool.true_or] at hp;conv=>whnf
    repeat ((first|(refine Ld.at (by omega) cg ?_)|(refine Ix.of i (by omega) (by omega) ?_)|refine Br.t ?_|refine Pk.t ?_|refine Br.y ?_|refine CW.s ?_);conv=>whnf)
    refine Sd.rowAt r7 (25+i) (by omega) (by omega) rfl ?_;intro w2 r2 k2;conv=>whnf
    repeat ((first|refine Ar.la ?_);conv=>whnf)
    exact⟨i+1,⟨hlt,hh.away r7 (by decide) k2,r6.keep k2 (by simpa using h67),r2.congr (fun j _=>hp j),ly.keep k2 (fun x hx hm=>hY (List.mem_singleton.1 hm ▸ hx)),kk.fresh hw7 k2⟩,⟨rfl,rfl,rfl,rfl,rfl,rfl,vi (by omega),trivial⟩,by simp only;omega⟩
   ·have hp:=scF_put (K:=K) (s:=s) (also:=also) i hlt;simp only[h3,decide_false,Bool.false_or] at hp;conv=>whnf
    repeat ((first|(refine Ld.at (by omega) cg ?_)|(refine Ix.of i (by omega) (by omega) ?_)|refine Br.f ?_|refine Pk.f ?_|refine Br.y ?_|refine Br.n ?_|refine CW.s ?_);conv=>whnf)
    refine Sd.rowAt r7 (25+i) (by omega) (by omega) rfl ?_;intro w2 r2 k2;conv=>whnf
    repeat ((first|refine Ar.la ?_);conv=>whnf)
    exact⟨i+1,⟨hlt,hh.away r7 (by decide) k2,r6.keep k2 (by simpa using h67),r2.congr (fun j _=>hp j),ly.keep k2 (fun x hx hm=>hY (List.mem_singleton.1 hm ▸ hx)),kk.fresh hw7 k2⟩,⟨rfl,rfl,rfl,rfl,rfl,rfl,vi (by omega),trivial⟩,by simp only;omega⟩
  obtain rfl:i=12:=by omega
  clear hlt hi ly hY;conv=>whnf
  repeat ((first|refine Br.f ?_|refine CW.s ?_);conv=>whnf)
  refine CW.held (fun w'=>CoreAt w' N K X c) [] (.take 0 (.take 1 (.take 2 (.take 3 (.take 4 (.take 5 (.one 6 (.one 7 (.done))))))))) tt_ok (by kernel_rfl) (by kernel_rfl) (by kernel_rfl) ?_ ?_
  ·exact hh.core.keep0 ((Keep.refl _ _).drewN 1)
  have q1:=(Keep.refl [] wr).drewN 1;have h2:=hh.keep0 q1;have r62:=r6.keep q1 (by simp);have r72:=r7.keep q1 (by simp);have k2:Keep [] w (wr.drewN 1):=kk.trans q1;clear hh r6 r7 kk q1;generalize wr.drewN 1=w2 at *;conv=>whnf
  repeat ((first|(refine LdQ.of (fun _ h=>h.c4) ?_)|(refine RuQ.of (fun w _=>sl12_run x7 38 w) ?_));conv=>whnf)
  refine Ca.of (Hl.reads_ok w2 N.e K.F h2.core.health) ?_;rintro _ w3 ⟨Z,ez,rfl,O⟩;have h3:=h2.keep0 O.keep;have r63:=r62.keep O.keep (by simp);have r73:=r72.keep O.keep (by simp);have k3:=k2.trans O.keep;refine⟨h3.core,?_⟩;conv=>whnf
  refine Bu.copy Tryz.underlying23 (by kernel_rfl) r73 Z 12 ez 12 rfl (O.ly.rd1) (fun e=>?_) (by omega) (fun _ _=>rfl) ?_
  ·have:=O.ly.2.2.1 e;have:=O.ly.1;omega
  intro w4 r74 k4;have h4:=h3.away r73 (by decide) k4;have r64:=r63.keep k4 (by simpa using h67);have kk4:=k3.fresh hw7 k4;clear h2 r62 r72 k2 h3 r63 r73 k3 O k4;refine⟨h4.core,?_⟩;conv=>whnf
  refine CW.held (fun w'=>CoreAt w' N K X c) [] (.take 0 (.take 1 (.take 2 (.take 3 (.take 4 (.take 5 (.one 6 (.one 7 (.done))))))))) tt_ok (by kernel_rfl) (by kernel_rfl) (by kernel_rfl) ?_ ?_
  ·exact h4.core.keep0 ((Keep.refl _ _).drewN 1)
  have q1:=(Keep.refl [] w4).drewN 1;have h2:=h4.keep0 q1;have r62:=r64.keep q1 (by simp);have r72:=r74.keep q1 (by simp);have k2:Keep [] w (w4.drewN 1):=kk4.trans q1;clear h4 r64 r74 kk4 q1;generalize w4.drewN 1=w5 at *;conv=>whnf
  repeat ((first|(refine LdQ.of (fun _ h=>h.c4) ?_)|(refine RuQ.of (fun w _=>sl12_run x7 50 w) ?_));conv=>whnf)
  refine Ca.of (Hl.scores_ok w5 N.e K.F h2.core.health) ?_;rintro _ w6 ⟨Z2,ez2,rfl,O⟩;have h3:=h2.keep0 O.keep;have r63:=r62.keep O.keep (by simp);have r73:=r72.keep O.keep (by simp);have k3:=k2.trans O.keep;refine⟨h3.core,?_⟩;conv=>whnf
  refine Bu.copy Tryz.underlying23 (by kernel_rfl) r73 Z2 12 ez2 12 rfl (O.ly.rd1) (fun e=>?_) (by omega) (fun _ _=>rfl) ?_
  ·have:=O.ly.2.2.1 e;have:=O.ly.1;omega
  intro w7 r77 k7;have h7:=h3.away r73 (by decide) k7;have r67:=r63.keep k7 (by simpa using h67);have kk7:=k3.fresh hw7 k7;have r77:=r77.congr (fun j hj=>scF_end j hj);refine⟨h7.core,?_⟩;conv=>whnf
  refine Ru.lda r77 Tryz.underlying116 rfl size_cp (by omega) ?_;rw[agg_congr (fun j _=>by rw[Nat.zero_add]:∀j,j<62->(stC K s also).cell (0+j)=(stC K s also).cell j)];conv=>whnf
  refine Ru.sta r67 size_cp (by omega) (fun j _=>Cp.cell_one _ j) ?_;intro w8 r8 k8;conv=>whnf
  refine Ru.lda r8 Tryz.underlying116 rfl size_cp (by omega) ?_;conv=>whnf
  rw[agg_congr (fun j hj=>by unfold lay;rw[if_pos (by omega),Nat.zero_add,Nat.sub_zero]:∀j,j<62->lay Cp.zero.cell 0 62 (stC K s also).cell (0+j)=(stC K s also).cell j)];exact⟨rfl,rfl,kk7.fresh hw6 k8⟩
end
structure CS.calm(P:CS):Prop where
 f:∀B,P.failed B=false
 b:∀B,P.before B<=0
 e:∀B,P.atErase B=false
 d:∀p,P.dm p=0
def CS.lay(P:CS)(p:Nat)(t:Tg)(D:Nat->Nat):CS:=(((((P.setPg p (.torn 1)).setPg p (.torn 2)).setPg p (.torn 3)).setPg p (.full t (cutD D)))).readE p
def CS.layT(P:CS)(p:Nat):List CS:=[P,P.setPg p (.torn 1),(P.setPg p (.torn 1)).setPg p (.torn 2),((P.setPg p (.torn 1)).setPg p (.torn 2)).setPg p (.torn 3)]
theorem CS.hit_calm{P:CS}(h:P.calm)(B:Nat):P.hit B=P:=by
 unfold CS.hit;rw[if_neg (by have:=h.b B;omega)]
theorem CS.setPg_calm{P:CS}(h:P.calm)(p:Nat)(x:Pg):(P.setPg p x).calm:=⟨h.f,h.b,h.e,fun q=>by
 show updf P.dm p 0 q=0;unfold updf;split
 ·rfl
 ·exact h.d q⟩
theorem CS.readE_calm{P:CS}(h:P.calm)(p:Nat):(P.readE p).calm:=⟨h.f,h.b,h.e,h.d⟩
theorem CS.lay_calm{P:CS}(h:P.calm)(p:Nat)(t:Tg)(D:Nat->Nat):(P.lay p t D).calm:=CS.readE_calm (CS.setPg_calm (CS.setPg_calm (CS.setPg_calm (CS.setPg_calm h _ _) _ _) _ _) _ _) _
theorem CS.wr_calm{P:CS}(h:P.calm)(p k:Nat)(t:Tg)(D:Nat->Nat):P.wr p k t D=(P.setPg p (if k=3 then .full t (cutD D) else .torn (k+1)),0):=by
 unfold CS.wr;rw[CS.hit_calm h,if_neg (by rw[h.f];decide)]
theorem CS.pgm_calm{P:CS}(h:P.calm){p:Nat}(hb:P.pg p=.blank)(t:Tg)(D:Nat->Nat):P.pgm p t D=(P.lay p t D,0,P.layT p):=by
 have a1:=CS.setPg_calm h p (.torn 1);have a2:=CS.setPg_calm a1 p (.torn 2);have a3:=CS.setPg_calm a2 p (.torn 3);have h0:P.progTo p t D 0=(P,0):=rfl;have h1:P.progTo p t D 1=(P.setPg p (.torn 1),0):=by
  unfold CS.progTo;rw[h0,if_pos rfl,CS.wr_calm h,if_neg (by decide)]
 have h2:P.progTo p t D 2=((P.setPg p (.torn 1)).setPg p (.torn 2),0):=by
  unfold CS.progTo;rw[h1,if_pos rfl,CS.wr_calm a1,if_neg (by decide)]
 have h3:P.progTo p t D 3=(((P.setPg p (.torn 1)).setPg p (.torn 2)).setPg p (.torn 3),0):=by
  unfold CS.progTo;rw[h2,if_pos rfl,CS.wr_calm a2,if_neg (by decide)]
 have h4:P.progTo p t D 4=((((P.setPg p (.torn 1)).setPg p (.torn 2)).setPg p (.torn 3)).setPg p (.full t (cutD D)),0):=by
  unfold CS.progTo;rw[h3,if_pos rfl,CS.wr_calm a3,if_pos rfl]
 have ht:P.progTr p t D 4=P.layT p:=by
  unfold CS.progTr;rw[h3,if_pos rfl];unfold CS.progTr;rw[h2,if_pos rfl];unfold CS.progTr;rw[h1,if_pos rfl];unfold CS.progTr;rw[h0,if_pos rfl];rfl
 have e:P.prog p t D=((((P.setPg p (.torn 1)).setPg p (.torn 2)).setPg p (.torn 3)).setPg p (.full t (cutD D)),0,P.layT p):=by
  unfold CS.prog;rw[hb];simp only;rw[h4,ht]
 unfold CS.pgm;rw[e,if_pos rfl];rfl
def CS.wipe(P:CS)(B:Nat):CS:={ P with failed:=updf P.failed B false,pg:=fun p=>if p/8=B then .blank else P.pg p,rd:=updf P.rd B 0 }
theorem CS.erase_calm{P:CS}(h:P.calm)(B:Nat):P.erase B=(P.wipe B,0):=by
 unfold CS.erase;rw[if_neg (by rw[h.f,h.e];decide)];rfl
theorem CS.wipe_calm{P:CS}(h:P.calm)(B:Nat):(P.wipe B).calm:=⟨fun b=>by
 unfold CS.wipe updf;simp only;split
 ·rfl
 ·exact h.f b,h.b,h.e,h.d⟩
section
variable{w w':World}{N:Cr}{K:KS}{X:Option Addr}{c:Nat}{P:CS}{b:Option Nat}{n:Int}
theorem On.full(h:On w N K P b n X c){p:Nat}(hp:p<96){t:Tg}{D:Nat->Nat}(e:P.pg p=.full t D):t.ok/\t.place=p/\(∀j,D j<256)/\cutD D=D:=by
 obtain⟨C,M,A,l⟩:=h.med;have:=A.page p hp;rw[e] at this;exact⟨this.1,this.2.1,this.2.2.1,this.2.2.2.1⟩
theorem program_calm(h:On w N K P b n X c)(B:Hl.HB K.F)(hc:P.calm){p d:Nat}{A:Option Addr}{D:Nat->Nat}{t:Tg}(hp:p<96)(hD:∀j,D j<256)(hl:Ly w 5 1 A 174 d (fun j=>.int .u8 (D j:Nat)))(ht:t.ok)(hta:t.place=p)(hb:P.pg p=.blank) :
  Spec Tryz.prog 109 #[.pointer (some ⟨N.k,0,none⟩),.agg t.arr,.slice A 174 d] w fun v w'=>EndsX N X c (rdK K p) (P.lay p t D) b (P.layT p) w w' (v=errOf 0) (v=errOf 7):=by
 have:=cprogram_ok h B hp hD hl ht hta;rw[CS.pgm_calm hc hb] at this;exact this
end
def dataAt(P:CS)(p:Nat):Nat->Nat:=match P.pg p with
 |.full _ D=>D
 |_=>fun _=>0
def cpTag(K:KS)(d i o:Nat):Tg:=⟨((d*8+i:Nat):Int),o,(K.en o).seq,((K.en o).copy+1)%256,(K.en o).lost⟩
structure Cy where
 K:KS
 P:CS
 tr:List CS
 l:List Tg
def cpStep(d:Nat)(S:Cy)(o:Nat):Cy :=
 ⟨rdK (rdK S.K (S.K.at_ o-1)) (d*8+S.l.length),(S.P.readE (S.K.at_ o-1)).lay (d*8+S.l.length) (cpTag S.K d S.l.length o) (dataAt S.P (S.K.at_ o-1)),
  S.tr++(S.P.readE (S.K.at_ o-1)).layT (d*8+S.l.length),S.l++[cpTag S.K d S.l.length o]⟩
def cpTo(K:KS)(P:CS)(d:Nat)(os:List Nat):Cy:=os.foldl (cpStep d) ⟨K,P,[],[]⟩
theorem cpTo_snoc(K:KS)(P:CS)(d:Nat)(os:List Nat)(o:Nat):cpTo K P d (os++[o])=cpStep d (cpTo K P d os) o:=by
 unfold cpTo;rw[List.foldl_append];rfl
theorem cpTo_go(d:Nat)(os:List Nat)(S:Cy):∃T,(os.foldl (cpStep d) S).tr=S.tr++T:=by
 induction os generalizing S with
 |nil=>exact⟨[],by simp⟩
 | cons o os ih =>
  obtain⟨T,hT⟩:=ih (cpStep d S o);exact⟨_,by rw[List.foldl_cons,hT];show(S.tr++_)++T=_;rw[List.append_assoc]⟩
theorem cpTo_pre(K:KS)(P:CS)(d:Nat)(L:List Nat)(i:Nat):∃T,(cpTo K P d L).tr=(cpTo K P d (L.take i)).tr++T:=by
 have e:L=L.take i++L.drop i:=(List.take_append_drop i L).symm;have h:=cpTo_go d (L.drop i) (cpTo K P d (L.take i));unfold cpTo at *;rw[<-List.foldl_append, <-e] at h;exact h
def sameK(K K':KS):Prop:=∃F,K'={ K with F:=F }
theorem lay_pg(P:CS)(p q:Nat)(t:Tg)(D:Nat->Nat):(P.lay p t D).pg q=if q=p then .full t (cutD D) else P.pg q:=by
 unfold CS.lay CS.readE CS.setPg updf;simp only;split<;>rfl
structure CpInv(K:KS)(P:CS)(d:Nat)(os:List Nat)(S:Cy):Prop where
 len:S.l.length=os.length
 same:sameK K S.K
 hb:Hl.HB S.K.F
 calm:S.P.calm
 pg:∀q,(∀i,i<os.length->q≠d*8+i)->S.P.pg q=P.pg q
theorem cpTo_inv{K:KS}{P:CS}{d:Nat}(hb:Hl.HB K.F)(hc:P.calm)(hd:d<12)(hat:∀o,o<25->K.at_ o<=96)(os:List Nat)(ho:∀o,o∈os->o<25/\K.at_ o≠0)(h8:os.length<=8):CpInv K P d os (cpTo K P d os):=by
 induction os using snoc_rec with
 |h0=>exact⟨rfl,⟨K.F,rfl⟩,hb,hc,fun q _=>rfl⟩
 | h1 os o ih =>
  have ih:=ih (fun x hx=>ho x (List.mem_append_left _ hx)) (by simp at h8;omega);have hoo:=ho o (List.mem_append_right _ (List.mem_singleton.2 rfl));rw[cpTo_snoc];obtain⟨h1,h2,h3,h4,h5⟩:=ih;generalize cpTo K P d os=S at *;have e1:S.K.at_=K.at_:=by
   obtain⟨F,hF⟩:=h2;rw[hF]
  have hp:=hat o hoo.1;simp only[List.length_append,List.length_singleton] at h8;refine⟨by simp[cpStep,h1],?_,?_,CS.lay_calm (CS.readE_calm h4 _) _ _ _,fun q hq=>?_⟩
  ·obtain⟨F,hF⟩:=h2;show ∃F,rdK (rdK S.K _) _=_;rw[hF];exact⟨_,rfl⟩
  ·show Hl.HB (Hl.rdF (Hl.rdF S.K.F ((S.K.at_ o-1)/8)) ((d*8+S.l.length)/8));rw[e1];exact(h3.rd (by omega)).rd (by omega)
  ·simp only[List.length_append,List.length_singleton] at hq;unfold cpStep;simp only;rw[lay_pg,if_neg (by rw[h1];exact hq _ (by omega))];exact h5 q (fun i hi=>hq i (by omega))
def tgsF(l:List Tg)(j:Nat):Value:=(l.getD (j/5) Tg.zero).cell (j%5)
theorem tag_info:(Tryz.prog.info? 67).map (fun i=>(i.zero,i.size,i.bytes))=some (some (.agg Tg.zero.arr),5,40):=by kernel_rfl
structure CpHyp(K:KS)(P:CS)(v d:Nat):Prop where
 hb:Hl.HB K.F
 calm:P.calm
 at96:∀o,o<25->K.at_ o<=96
 ow25:∀p,p<96->K.ow p<=25
 hv:v<12
 hd:d<12
 live:∀o,o∈ofL K.ow v->o<=24/\K.at_ o≠0/\(0<=(K.en o).copy/\(K.en o).copy<=255)/\(K.at_ o-1)/8≠d/\∃t D,P.pg (K.at_ o-1)=.full t D/\t.of=o/\t.seq=(K.en o).seq
 blank:∀i,i<8->P.pg (d*8+i)=.blank
 ok:∀i (h:i<(ofL K.ow v).length),(cpTag K d i (ofL K.ow v)[i]).ok
theorem ofL_le(ow:Nat->Nat)(b:Nat):(ofL ow b).length<=8:=ofTo_le ow b 8
theorem alloc_en0(w:World):(Instr.alloc 140 true (.tuple #[])).run Tryz.prog w=.ok (.pointer (some ⟨w.heap.size,0,none⟩)) (w.alloc (.cells #[.int .i64 0,.int .i64 0,.bool false] 140)):=by kernel_rfl
theorem alloc_en(w:World):(Instr.alloc 140 true (.tuple #[])).run Tryz.prog w=.ok (.pointer (some ⟨w.heap.size,0,none⟩)) (w.alloc (rowObj 3 En.zero.cell 140)):=by
 rw[alloc_en0];congr 3;simp[Array.range,Array.ofFn_succ,En.cell,En.zero]
section
variable{w w':World}{N:Cr}{K:KS}{X:Option Addr}{c:Nat}{P:CS}{b:Option Nat}{n:Int}
theorem coreF_en'{o:Nat}(ho:o<=24){j:Nat}(hj:j<3):coreF N K X c (7+3*o+j)=(K.en o).cell j:=by
 unfold coreF;rw[if_neg (by omega),if_neg (by omega),if_neg (by omega),if_neg (by omega),if_neg (by omega),if_neg (by omega),if_neg (by omega),if_pos (by omega),show(7+3*o+j-7)/3=o by omega,show(7+3*o+j-7)%3=j by omega]
theorem and255{x:Int}(h:0<=x/\x<=255):bitv .and .i64 (x+1) 255=(x+1)%256:=by
 obtain⟨y,rfl⟩:∃y:Nat,x=y:=⟨x.toNat,by omega⟩;have:=bitv_and64 (a:=y+1) (b:=255) (by omega) (by omega);rw[show((y:Int)+1)=((y+1:Nat):Int) by omega];rw[show(255:Int)=((255:Nat):Int) from rfl,this,show(255:Nat)=2^8-1 from rfl,Nat.and_two_pow_sub_one_eq_mod];omega
theorem build_t1(t:Tg)(w:World):(Instr.buildSlice 239 1 #[(0,.agg t.arr)]).run Tryz.prog w=.ok (.slice (some ⟨w.heap.size,0,none⟩) 1 1) (w.alloc (.cells t.arr 67)):=by kernel_rfl
theorem Row.cell'{w:World}{g n:Nat}{T:TypeId}{f:Nat->Value}(r:Row w g T n f)(j:Nat)(hj:j<n):w.cell? ⟨g,0+j,none⟩=some (f j):=by
 rw[Nat.zero_add];exact r.cell j hj
theorem Runs.gone2{b:Option Nat}{t1 t2 t3:List CS}{ok:Option Nat->Prop}{dead:CS->Prop}{y:Nat}(hf:fits b t1.length)(h:y<t2.length)(hb:less b t1.length=some y)(hd:dead t2[y]):Runs b (t1++t2++t3) ok dead:=by
 rw[List.append_assoc];exact Runs.then hf (Runs.gone h hb hd)
theorem Runs.fits{b:Option Nat}{t1 t2:List CS}(hf:fits b t1.length)(h:fits (less b t1.length) t2.length):Go.Proofs.YtaeikigfgfcadaaGreat.fits b (t1++t2).length:=fun x hx=>by
 subst hx;have h1:=hf x rfl;have h2:=h (x-t1.length) rfl;simp;omega
theorem On.keepS{w1 w2:World}{K0:KS}{P0:CS}{b0:Option Nat}{n0:Int}{S:List Nat}(h0:On w N K0 P0 b0 n0 X c)(h:On w1 N K P b n X c)(k:Keep S w1 w2)(hS:∀x,x∈S->w.heap.size<=x):On w2 N K P b n X c:=by
 obtain⟨C0,M0,-⟩:=h0.med;obtain⟨C,M,q⟩:=h.med;have hl:=M0.lt;have no:∀y,y<w.heap.size->y∉S:=fun y hy hm=>by have:=hS y hm;omega
 exact⟨h.core.keep k (fun x hx=>no x (h0.core.lt hx)),C,M.keep k (no _ hl.1) (no _ hl.2.1) (no _ hl.2.2.1) (no _ hl.2.2.2.1) (no _ hl.2.2.2.2.1) (no _ hl.2.2.2.2.2),q⟩
theorem tgsF_push{l:List Tg}{t:Tg}{i:Nat}(hl:l.length=i)(j:Nat)(hj:j<(i+1)*5):(if j<i*5 then tgsF l j else t.cell (j-i*5))=tgsF (l++[t]) j:=by
 unfold tgsF;by_cases h:j<i*5
 ·have h5:j/5<l.length:=by omega
  rw[if_pos h];simp[List.getD,List.getElem?_append_left h5]
 ·have h5:j/5=l.length:=by omega
  rw[if_neg h,show j-i*5=j%5 by omega];simp[List.getD,h5]
def CpsOk(l:List Tg)(w:World)(v:Value)(w':World):Prop:=∃Z cz,v=.tuple #[.slice Z l.length cz,errOf 0]/\Ly w' 67 5 Z l.length cz (tgsF l)/\∀x,x∈blk Z->w.heap.size<=x
theorem ccopies_ok(h:On w N K P b n X c){v d:Nat}(H:CpHyp K P v d) :
  Spec Tryz.prog 148 #[.pointer (some ⟨N.k,0,none⟩),.int .i64 v,.int .i64 d,.bool false] w fun u w' =>
   EndsX N X c (cpTo K P d (ofL K.ow v)).K (cpTo K P d (ofL K.ow v)).P b (cpTo K P d (ofL K.ow v)).tr w w' (CpsOk (cpTo K P d (ofL K.ow v)).l w u w') (u=.tuple #[.slice none 0 0,errOf 7]):=by
 obtain⟨i0,hi,hz0,hz1,hz2⟩:=info_parts tag_info;have hL8:=ofL_le K.ow v;have hinv:∀i,CpInv K P d ((ofL K.ow v).take i) (cpTo K P d ((ofL K.ow v).take i)):=fun i=>cpTo_inv H.hb H.calm H.hd H.at96 _ (fun o ho=>by
  have:=H.live o (List.mem_of_mem_take ho);exact⟨by omega,this.2.1⟩) (by simp;omega)
 refine spec_of_wpE (T:=tt) tt_ok Tryz.func148 rfl (by decide +kernel) Tryz.ntmps148 (by simp) ?_;conv=>whnf
 repeat ((first|(refine Ld.of h.core.c2 ?_));conv=>whnf)
 refine Ca.of (mof_ok h.core.map v H.hv H.ow25) ?_;rintro _ w1 ⟨u,rfl,Y,e,rfl,ls,hY,k1⟩;have h1:=h.keep0 k1;generalize hL:ofL K.ow v=L at *;conv=>whnf
 repeat ((first|refine Br.f ?_|refine Ru.neq_nil0 ?_|refine CW.s ?_);conv=>whnf)
 refine CW.loop (ι:=Nat×Option Addr×Nat×Int) (fun i w'=>i.1<=L.length/\fits b (cpTo K P d (L.take i.1)).tr.length/\On w' N (cpTo K P d (L.take i.1)).K (cpTo K P d (L.take i.1)).P (less b (cpTo K P d (L.take i.1)).tr.length) i.2.2.2 X c /\
   Ls w' Y e L/\Ly w' 67 5 i.2.1 i.1 i.2.2.1 (tgsF (cpTo K P d (L.take i.1)).l)/\(∀x,x∈blk i.2.1->w.heap.size<=x)/\Keep N.all w w')
  (fun i=>[(0,.pointer (some ⟨N.k,0,none⟩)),(2,.int .i64 d),(3,.bool false),(12,.slice i.2.1 i.1 i.2.2.1),(34,.slice Y L.length e),(35,.int .i64 L.length),(36,.int .i64 i.1)]) (fun i=>L.length-i.1) (0,none,0,n) tt_ok
  ⟨by simp,(fun x hx=>by simp[cpTo]),by simp only[List.take_zero];rw[show(cpTo K P d []).tr.length=0 from rfl,less_zero];exact h1,ls,Ly.nil _ _ _ _,by simp[blk],Keep.of0 k1⟩ ⟨rfl,rfl,rfl,rfl,rfl,rfl,rfl,trivial⟩ ?_;rintro⟨i,Z,cz,n'⟩ wr ⟨hil,hf,hr,hls,hz,hZ,kk⟩;simp only at hil hf hr hls hz hZ kk ⊢;have far:∀x,w.heap.size<=x->x∉N.all:=fun x hx hm=>by
  have h3:x<w.heap.size:=by
   rcases List.mem_append.1 hm with hm|hm
   ·exact h.core.lt (List.mem_append_left _ hm)
   ·exact h.l_lt _ hm
  omega
 by_cases hlt:i<L.length
 ·have hin:=hinv i;have htk:L.take (i+1)=L.take i++[L[i]]:=by rw[List.take_add_one,List.getElem?_eq_getElem hlt];rfl
  have hsn:=cpTo_snoc K P d (L.take i) L[i];rw[<-htk] at hsn;have hd12:=H.hd;have hlv:=H.live L[i] (by rw[hL];exact List.getElem_mem hlt);have hok:∀i (h:i<L.length),(cpTag K d i L[i]).ok:=by
   subst hL;exact H.ok
  have hok:=hok i hlt;have hbl:=H.blank i (by omega);have hat:=H.at96 L[i] (by omega);have hcell:=hls.rd1 (by omega);obtain⟨gy,oy,rfl,hcell⟩:=hcell;have ci:=hcell i hlt;have elf:lf L i=.int .i64 ((L[i]:Nat):Int):=by
   unfold lf;rw[getD_at L hlt]
  rw[elf] at ci;obtain⟨hlen,⟨F,hsame⟩,hhb,hcalm,hpg⟩:=hin;rw[List.length_take,Nat.min_eq_left hil] at hlen hpg;have hpre:∃T,(cpTo K P d L).tr=(cpTo K P d (L.take (i+1))).tr++T:=cpTo_pre K P d L (i+1);generalize cpTo K P d (L.take i)=S at *;generalize L[i]=o at *;obtain⟨ho,h0,hcp,hpd,t,D,hpgo,hto,hts⟩:=hlv;have eat:S.K.at_=K.at_:=by rw[hsame]
  have een:S.K.en=K.en:=by rw[hsame]
  have hpg2:S.P.pg (K.at_ o-1)=.full t D:=by rw[hpg _ (fun j hj e=>hpd (by omega))];exact hpgo
  have hbl2:S.P.pg (d*8+i)=.blank:=by rw[hpg _ (fun j hj e=>by omega)];exact hbl
  clear hpg hbl hpgo hcell elf;have etg:Tg.mk ((d:Int)*8+i) o (K.en o).seq (((K.en o).copy+1)%256) (K.en o).lost=cpTag K d i o:=by
   unfold cpTag;congr 1
  conv=>whnf
  repeat' ((first|(refine Ld.at (by omega) ci ?_)|refine Br.f ?_|refine Pk.f ?_|refine Pk.t ?_|refine Ix.n ?_|refine Br.y ?_|refine CW.s ?_|refine Br.d (fun _=>?_) (fun _=>?_))<;>conv=>whnf)
  all_goals
   conv=>whnf
   repeat ((first|(refine Ld.of hr.core.c2 ?_));conv=>whnf)
   refine Ca.of (mat_ok hr.core.map o ho (by rw[eat];exact hat)) ?_;rintro _ _ ⟨rfl,rfl⟩;rw[if_neg (by rw[eat];exact h0),eat];conv=>whnf
   repeat ((first|refine Br.f ?_|refine Ru.neq_nil0 ?_|refine CW.s ?_);conv=>whnf)
   refine Ca.of (cread_ok hr hhb (p:=K.at_ o-1) (by omega)) ?_;rintro _ w2 ⟨R,dv,hR,hdv,rfl,h2,k2⟩;unfold PgRead at hR;rw[hpg2] at hR;obtain⟨hR1,rfl,hR3,hR4,hR5⟩:=hR;rcases hdv with⟨-,O,oc,rfl,hO,lyO⟩|⟨hs,-⟩
   case inr=>rw[hR3] at hs;cases hs
   rw[hR1,hR3];have c2:w2.cell? ⟨gy,oy+i,none⟩=some (.int .i64 (o:Nat)):=by
    rw[k2.cell (cell_lt ci) (far gy (hY gy (List.mem_singleton.2 rfl)))];exact ci
   conv=>whnf
   refine Ru.alloca (alloc_page w2) ?_;intro x17 w3 hx17 hs3 r17a k3;conv=>whnf
   refine Ru.stpage r17a (fun j hj=>pgc_one rfl j hj) ?_;intro w4 r17 k4;have q4:Keep [] w2 w4:=k3.then k4 (fun x hx=>.inr (by rw[List.mem_singleton.1 hx,hx17];exact Nat.le_refl _));have h4:=h2.keep0 q4;have ly4:=lyO.keep0 q4;have k2:=k2.trans (Keep.of0 q4);clear k3 k4 q4 h2 lyO hs3 r17a hx17 c2 w3;conv=>whnf
   repeat ((first|(refine Ix.of o (by omega) (by omega) ?_)|refine Br.f ?_|refine Ru.neq_nil0 ?_|refine CW.s ?_);conv=>whnf)
   rw[show 0+7+o*3=7+3*o by omega];refine Ru.ldaC (q:=(K.en o).cell) h4.core.row Tryz.underlying140 rfl size_en (by omega) (fun j hj=>by rw[coreF_en' ho hj, <-een];rfl) ?_;conv=>whnf
   refine Ru.alloca (alloc_en w4) ?_;intro x18 w5 hx18 hs5 r18a k5;conv=>whnf
   refine Ru.sta r18a size_en (by omega) (fun j hj=>En.cell_one _) ?_;intro w6 r18b k6;have r18:Row w6 x18 140 3 (K.en o).cell:=r18b.congr (fun j hj=>by unfold lay;rw[if_pos (by omega),Nat.sub_zero]);have q6:Keep [] w4 w6:=k5.then k6 (fun x hx=>.inr (by rw[List.mem_singleton.1 hx,hx18];exact Nat.le_refl _));have h6:=h4.keep0 q6;have ly6:=ly4.keep0 q6;have r176:=r17.keep q6 (by simp);have k2:=k2.trans (Keep.of0 q6);clear k5 k6 q6 h4 ly4 hs5 r18a r18b hx18 r17 w5;have e0:(K.en o).cell 0=.int .i64 (K.en o).seq:=rfl;have e1:(K.en o).cell 1=.int .i64 (K.en o).copy:=rfl;have e2:(K.en o).cell 2=.bool (K.en o).lost:=rfl;have d0:w6.cell? ⟨x18,0,none⟩=some (.int .i64 (K.en o).seq):=r18.cell 0 (by omega);have d1:w6.cell? ⟨x18,1,none⟩=some (.int .i64 (K.en o).copy):=r18.cell 1 (by omega);have d2:w6.cell? ⟨x18,2,none⟩=some (.bool (K.en o).lost):=r18.cell 2 (by omega);conv=>whnf
   repeat ((first|(refine Ld.of d0 ?_)|(refine Ld.of d1 ?_)|(refine Ld.of d2 ?_)|refine Ar.la ?_);conv=>whnf)
   refine Ru.of (build_tg _ _ _ _ _ _) ?_;rw[and255 hcp,etg];conv=>whnf
   refine Ru.alloctg ?_;intro x19 w7 hx19 hs7 r19a k7;conv=>whnf
   refine Ru.sttg r19a ?_;intro w8 r19 k8;have q8:Keep [] w6 w8:=k7.then k8 (fun x hx=>.inr (by rw[List.mem_singleton.1 hx,hx19];exact Nat.le_refl _));have h8:=h6.keep0 q8;have ly8:=ly6.keep0 q8;have r178:=r176.keep q8 (by simp);have r188:=r18.keep q8 (by simp);have hx19w:w.heap.size<=x19:=by
    rw[hx19];have:=k2.size;have:=kk.size;omega
   have k2:=k2.trans (Keep.of0 q8);clear k7 k8 q8 h6 ly6 hs7 r19a hx19 r176 r18 d0 d1 d2 w7;have p1:w8.cell? ⟨x17,2,none⟩=some (.int .i64 R.tag.of):=r178.cell 2 (by omega);have p2:w8.cell? ⟨x17,3,none⟩=some (.int .i64 R.tag.seq):=r178.cell 3 (by omega);have p3:w8.cell? ⟨x17,6,none⟩=some (.bool true):=r178.cell 6 (by omega);have p4:w8.cell? ⟨x17,7,none⟩=some (.slice O 174 oc):=r178.cell 7 (by omega);have d0:w8.cell? ⟨x18,0,none⟩=some (.int .i64 (K.en o).seq):=r188.cell 0 (by omega);rw[hto] at p1;rw[hts] at p2;conv=>whnf
   repeat ((first|(refine Ld.at (by omega) p4 ?_)|(refine Ld.at (by omega) p1 ?_)|(refine Ld.at (by omega) p2 ?_)|(refine Ld.at (by omega) p3 ?_)|(refine Ld.at (by omega) d0 ?_)|refine Br.t ?_|refine Pk.t ?_|refine Br.y ?_|refine CW.s ?_);conv=>whnf)
   refine Ru.ldtg r19 ?_;conv=>whnf
   obtain⟨-,-,hD,-⟩:=hr.full (p:=K.at_ o-1) (by omega) hpg2;have lyD:Ly w8 5 1 O 174 oc (fun j=>.int .u8 (D j:Nat)):=ly8.congr (fun j hj=>by
    rw[<-hR4];unfold cutD;rw[if_pos (by omega)])
   refine Ca.of (program_calm h8 (hhb.rd (by omega)) (CS.readE_calm hcalm _) (p:=d*8+i) (by omega) hD lyD hok rfl hbl2) ?_;rintro _ w9 ⟨k9,hr9⟩;have k29:=k2.trans k9;have z9:=hz.keep k29 (fun x hx=>far x (hZ x hx));have ls9:=hls.keep k29 (fun x hx=>far x (hY x hx));have hdat:dataAt S.P (K.at_ o-1)=D:=by
    unfold dataAt;rw[hpg2]
   have r199:=r19.keep k9 (far x19 hx19w);have esn:cpStep d S o=⟨rdK (rdK S.K (K.at_ o-1)) (d*8+i),(S.P.readE (K.at_ o-1)).lay (d*8+i) (cpTag K d i o) D,S.tr++(S.P.readE (K.at_ o-1)).layT (d*8+i),S.l++[cpTag K d i o]⟩:=by
    unfold cpStep;rw[hlen,eat,hdat,show cpTag S.K d i o=cpTag K d i o by unfold cpTag;rw[een]]
   rw[esn] at hsn;rcases hr9 with⟨hf9,rfl,n9,h9⟩|⟨y,hy,hyb,rfl,n9,h9⟩
   ·conv=>whnf
    repeat ((first|refine Br.f ?_|refine Ru.neq_nil0 ?_);conv=>whnf)
    refine Ru.ldtg r199 ?_;conv=>whnf
    refine Ru.of (build_t1 _ _) ?_;have ka:Keep [] w9 (w9.alloc (.cells (cpTag K d i o).arr 67)):=(Keep.refl _ _).alloc _;have ha:Rd (w9.alloc (.cells (cpTag K d i o).arr 67)) (some ⟨w9.heap.size,0,none⟩) (1*5) (cpTag K d i o).cell:=fun _=>⟨w9.heap.size,0,rfl,fun j hj=>(Row.tg (heap_alloc_new _ _)).cell' j hj⟩
    generalize w9.alloc _=w10 at *;conv=>whnf
    refine Bu.append Tryz.underlying239 hi hz0 hz1 hz2 rfl (by omega) (z9.keep0 ka) _ ha (by omega) (by simp) (fun j hj=>tg_one _ j hj) (by simp only[maxLen];omega) (by omega) ?_;intro Z2 cz2 w11 hz11 k11 hat11 hpre11;have ls10:=ls9.keep0 ka;have z10:=z9.keep0 ka;have h11:=h.keepS (h9.keep0 ka) k11 hZ;have ls11:=ls10.keep k11 (fun x hx hm=>(ls10.type_ne z10 (by decide) hx) hm);have kk10:Keep N.all w w10:=(kk.trans k29).trans (Keep.of0 ka);have kk11:Keep N.all w w11:=kk10.then k11 (fun x hx=>.inr (hZ x hx));rw[less_less, <-List.length_append] at h11;conv=>whnf
    repeat ((first|refine Ar.la ?_);conv=>whnf)
    refine⟨(i+1,Z2,cz2,n9),⟨hlt,?_,?_,ls11,?_,?_,kk11⟩,⟨rfl,rfl,rfl,rfl,rfl,rfl,vi (by simp only;omega),trivial⟩,by simp only;omega⟩
    ·simp only;rw[hsn];exact Runs.fits hf hf9
    ·simp only;rw[hsn];exact h11
    ·simp only;rw[hsn];exact hz11.congr (fun j hj=>tgsF_push hlen j hj)
    ·intro x hx;rcases hat11 with e'|e'
     ·rw[e'] at hx;exact hZ x hx
     ·rw[e'] at hx;rw[List.mem_singleton.1 hx];exact kk10.size
   ·obtain⟨T,hT⟩:=hpre;conv=>whnf
    repeat ((first|refine Br.t ?_|refine Ru.n1 ?_);conv=>whnf)
    refine⟨rfl,kk.trans k29,?_⟩;rw[hT,hsn];exact Runs.gone2 hf hy hyb ⟨rfl,n9,h9⟩
 ·obtain rfl:i=L.length:=by omega
  have hlen:=(hinv L.length).len;rw[List.take_length] at *;conv=>whnf
  repeat ((first|refine Br.n ?_|refine CW.s ?_);conv=>whnf)
  exact⟨rfl,kk,.inl ⟨hf,⟨Z,cz,by rw[hlen];rfl,by rw[hlen];exact hz,hZ⟩,n',hr⟩⟩
end
def mvK(K:KS)(t:Tg):KS:={ stK K t t.of.toNat t.place.toNat with moves:=w64 (K.moves+1) }
def mvTo(K:KS)(l:List Tg):KS:=l.foldl mvK K
theorem mvTo_snoc(K:KS)(l:List Tg)(t:Tg):mvTo K (l++[t])=mvK (mvTo K l) t:=by
 unfold mvTo;rw[List.foldl_append];rfl
def endK(K:KS)(d:Nat)(l:List Tg):KS:=if roomB (mvTo K l).fo (mvTo K l).fi 0 then { mvTo K l with st:=setSt (mvTo K l).st d 2 } else { shK (mvTo K l) with fo:=true,fb:=d,fi:=l.length }
section
variable{w w':World}{N:Cr}{K:KS}{X:Option Addr}{c:Nat}{P:CS}{b:Option Nat}{n:Int}
theorem coreF_moves(x:Int)(j:Nat)(hj:j<110):put (coreF N K X c) 109 (.int .i64 x) j=coreF N { K with moves:=x } X c j:=by
 unfold put;by_cases h:j=109
 ·subst h;rfl
 ·rw[if_neg h];unfold coreF;simp only;by_cases h1:j<106
  ·have e6:¬j=106:=by omega
   have e7:¬j=107:=by omega
   have e8:¬j=108:=by omega
   simp only[e6,e7,e8,if_false,h1,if_true]
  ·have:j=106\/j=107\/j=108:=by omega
   rcases this with rfl|rfl|rfl<;>rfl
theorem On.tagsApart(h:On w N K P b n X c){Z:Option Addr}{m cz:Nat}{f:Nat->Value}(hz:Ly w 67 5 Z m cz f):∀x,x∈blk Z->x∉N.all:=fun x hx hm=>by
 obtain⟨C,M,q⟩:=h.med;obtain⟨F,rg⟩:=M.frm.cod.fs.ty;simp only[Cr.all,Cr.own,Pt.l,List.cons_append,List.nil_append,List.mem_cons,List.not_mem_nil,or_false] at hm;rcases hm with rfl|rfl|rfl|rfl|rfl|rfl|rfl|rfl|rfl
 ·exact hz.row_ne h.core.row (by decide) hx
 ·exact hz.row_ne h.core.pool (by decide) hx
 ·exact hz.row_ne h.core.map (by decide) hx
 ·exact hz.row_ne h.core.front (by decide) hx
 ·exact hz.row_ne h.core.health (by decide) hx
 ·exact hz.row_ne h.core.pat (by decide) hx
 ·exact hz.row_ne M.row (by decide) hx
 ·exact hz.row_ne M.chip (by decide) hx
 ·exact hz.row_ne rg (by decide) hx
theorem load5{w:World}{g o:Nat}{t:Tg}(h:∀m,m<5->w.cell? ⟨g,o+m,none⟩=some (t.cell m)):(loadVar 67 ⟨g,o,none⟩).run Tryz.prog w=.ok (.agg t.arr) w:=by
 have e:∀m,m<5->(load ((⟨g,o,none⟩:Addr).add m)).run Tryz.prog w=.ok (t.cell m) w:=fun m hm=>by
  rw[add_none];simp[load,Sem.run,h m hm]
 have ha:(isAgg 67).run Tryz.prog w=.ok true w:=run_isAgg_of Tryz.underlying67 rfl w;have hs:(sizeOf 67).run Tryz.prog w=.ok 5 w:=size_of_is (by kernel_rfl) w;simp only[loadVar,Sem.run_bind,ha,Result.andThen_ok,if_true,hs,loadCells,loadCellsFrom,e 0 (by omega),e 1 (by omega),e 2 (by omega),e 3 (by omega),e 4 (by omega),Sem.run_pure];rfl
theorem ends_ok(h:On w N K P b n X c){d:Nat}(hd:d<12){l:List Tg}{Z:Option Addr}{cz:Nat}(hz:Ly w 67 5 Z l.length cz (tgsF l))(hl8:l.length<=8)
  (hl:∀t,t∈l->(0<=t.of/\t.of<=24)/\0<=t.place/\t.place<96) (hw:∀i,i<l.length->MapWf (mvTo K (l.take i)).at_ (mvTo K (l.take i)).ow) (hfb:K.fb<12) (hfi:K.fi<=8) :
  Spec Tryz.prog 149 #[.pointer (some ⟨N.k,0,none⟩),.int .i64 d,.slice Z l.length cz] w fun v w'=>v=.tuple #[]/\On w' N (endK K d l) P b n X c/\Keep N.all w w':=by
 have hap:=h.tagsApart hz;have hfr:∀i,(mvTo K (l.take i)).fo=K.fo/\(mvTo K (l.take i)).fb=K.fb/\(mvTo K (l.take i)).fi=K.fi:=fun i=>by
  generalize l.take i=m
  induction m using snoc_rec with
  |h0=>exact⟨rfl,rfl,rfl⟩
  |h1 m t ih=>rw[mvTo_snoc];exact ih
 refine spec_of_wpE (T:=tt) tt_ok Tryz.func149 rfl (by decide +kernel) Tryz.ntmps149 (by simp) ?_;conv=>whnf
 repeat ((first|refine CW.s ?_);conv=>whnf)
 refine CW.loop (ι:=Nat) (fun i w'=>i<=l.length/\On w' N (mvTo K (l.take i)) P b n X c/\Keep N.all w w') (fun i=>[(0,.pointer (some ⟨N.k,0,none⟩)),(1,.int .i64 d),(2,.slice Z l.length cz),(8,.slice Z l.length cz),(9,.int .i64 l.length),(10,.int .i64 i)]) (fun i=>l.length-i) 0 tt_ok ⟨by omega,h,Keep.refl _ _⟩ ⟨rfl,rfl,rfl,rfl,rfl,rfl,trivial⟩ ?_;rintro i wr ⟨hi,hr,kk⟩;have hzr:=hz.keep kk hap;by_cases hlt:i<l.length
 ·have htk:l.take (i+1)=l.take i++[l[i]]:=by rw[List.take_add_one,List.getElem?_eq_getElem hlt];rfl
  have hsn:=mvTo_snoc K (l.take i) l[i];rw[<-htk] at hsn;obtain⟨⟨t1,t2⟩,t3,t4⟩:=hl l[i] (List.getElem_mem hlt);have hwi:=hw i hlt;have hrd:=hzr.rd (by omega);obtain⟨gz,oz,rfl,hcell⟩:=hrd;have hct:∀j,j<5->wr.cell? ⟨gz,oz+(i*5+j),none⟩=some (l[i].cell j):=fun j hj=>by
   rw[hcell (i*5+j) (by omega)];congr 1;unfold tgsF;rw[show(i*5+j)/5=i by omega,show(i*5+j)%5=j by omega];simp[List.getD,hlt]
  generalize mvTo K (l.take i)=S at *;generalize l[i]=t at *;conv=>whnf
  repeat ((first|refine Ix.n ?_|refine Br.y ?_|refine CW.s ?_);conv=>whnf)
  refine Ru.of (load5 (t:=t) (fun m hm=>by rw[Nat.add_assoc];exact hct m hm)) ?_;conv=>whnf
  refine Ru.alloctg ?_;intro x7 w2 hx7 hs2 r7a k2;conv=>whnf
  refine Ru.sttg r7a ?_;intro w3 r7 k3;have q3:Keep [] wr w3:=k2.then k3 (fun x hx=>.inr (by rw[List.mem_singleton.1 hx,hx7];exact Nat.le_refl _));have h3:=hr.keep0 q3;conv=>whnf
  refine Ru.ldtg r7 ?_;conv=>whnf
  refine Ca.of (stands_ok h3 hwi (t:=t) (o:=t.of.toNat) (p:=t.place.toNat) (by omega) (by omega) (by omega) (by omega)) ?_;rintro _ w4 ⟨rfl,h4,k4⟩;have c109:w4.cell? ⟨N.k,109,none⟩=some (.int .i64 S.moves):=h4.core.row.cell 109 (by omega);conv=>whnf
  repeat ((first|(refine Ld.of c109 ?_)|(refine Ar.i64w ?_));conv=>whnf)
  refine Sd.rowAt h4.core.row 109 (by omega) (by omega) rfl ?_;intro w5 r5 k5;have h5:On w5 N (mvK S t) P b n X c:=h4.row (K':=mvK S t) k5 r5 (fun j hj=>coreF_moves (w64 (S.moves+1)) j hj) rfl;conv=>whnf
  repeat ((first|refine Ar.la ?_);conv=>whnf)
  exact⟨i+1,⟨hlt,by rw[hsn];exact h5,((kk.trans (Keep.of0 q3)).trans k4).trans (Keep.of1 (by simp[Cr.own]) k5)⟩,⟨rfl,rfl,rfl,rfl,rfl,vi (by omega),trivial⟩,by simp only;omega⟩
 ·obtain rfl:i=l.length:=by omega
  have hf:=hfr l.length;rw[List.take_length] at *;conv=>whnf
  repeat ((first|(refine Ld.of hr.core.c3 ?_)|refine Br.n ?_|refine CW.s ?_);conv=>whnf)
  refine Ca.of (froom_ok hr.core.front 0 (by omega) (by omega) (by omega)) ?_;rintro _ w2 ⟨rfl,r2,k2⟩;have h2:=hr.keep0 k2;unfold endK;by_cases hroom:roomB (mvTo K l).fo (mvTo K l).fi 0=true
  ·rw[if_pos hroom,hroom];conv=>whnf
   repeat ((first|(refine Ld.of h2.core.c1 ?_)|refine Br.t ?_);conv=>whnf)
   refine Ca.of (pset_ok h2.core.pool d 2 hd (by omega)) ?_;rintro _ w3 ⟨⟨e,rfl⟩,r3,k3⟩;have h3:=h2.pool k3 r3;conv=>whnf
   exact⟨rfl,rfl,h3,(kk.trans (Keep.of0 k2)).trans (Keep.of1 (by simp[Cr.own]) k3)⟩
  ·have hroom':roomB (mvTo K l).fo (mvTo K l).fi 0=false:=by simpa using hroom
   rw[if_neg hroom,hroom'];conv=>whnf
   repeat ((first|refine Br.f ?_);conv=>whnf)
   refine Ca.of (shut_ok h2 (by omega)) ?_;rintro _ w3 ⟨rfl,h3,k3⟩;conv=>whnf
   repeat ((first|(refine Ld.of h3.core.c3 ?_));conv=>whnf)
   refine Ca.of (fopen_ok h3.core.front d l.length hd hl8) ?_;rintro _ w4 ⟨rfl,r4,k4⟩;have h4:=h3.front k4 r4;conv=>whnf
   exact⟨rfl,rfl,h4,((kk.trans (Keep.of0 k2)).trans k3).trans (Keep.of1 (by simp[Cr.own]) k4)⟩
end
end
end Go.Proofs.YtaeikigfgfcadaaGreat

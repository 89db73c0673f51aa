/- Texts behind one another: Map, Hl, Map2, Point, PointW, PointR, Front, Choose, Queue, ErrIs, ClL, Core, Core1, Core2, Core3, Core4, Calm, Copies, Ends, Vacate, Open. -/
import Derived.Tactics
import Derived.Tactics2
import Derived.LaidEql
import Derived.Stop.Asserts
import Derived.RowKitTokens
import Derived.Test.YtaeikigfgfcadaaGreatMr0a
import Derived.Test.YtaeikigfgfcadaaGreatMr0b
import Derived.Test.YtaeikigfgfcadaaGreatMr0c
namespace Go.Proofs.YtaeikigfgfcadaaGreat
open Go.Proofs.Tryz
set_option maxHeartbeats 4000000
set_option maxRecDepth 20000
set_option linter.unusedVariables false
set_option linter.unusedSimpArgs false
set_option linter.unnecessarySimpa false
section
open Go.RowKit
def pP(at_ ow:Nat->Nat)(j:Nat):Value:=if j<25 then .int .i64 (at_ j:Nat) else .int .i64 (ow (j-25):Nat)
def Ai(w:World)(m:Nat)(at_ ow:Nat->Nat):Prop:=Row w m 188 121 (pP at_ ow)
theorem zx(at_ ow:Nat->Nat){o:Nat}(x:Nat)(ho:o<25)(j:Nat)(hj:j<121):put (pP at_ ow) o (.int .i64 (x:Nat)) j=pP (ah at_ o x) ow j:=by
 unfold put pP ah;by_cases h:j=o
 ·subst h;simp[ho]
 ·simp[h]
theorem zy(at_ ow:Nat->Nat){p:Nat}(x:Nat)(hp:p<96)(j:Nat)(hj:j<121):put (pP at_ ow) (25+p) (.int .i64 (x:Nat)) j=pP at_ (ah ow p x) j:=by
 unfold put pP ah;by_cases h:j=25+p
 ·subst h;rw[if_pos rfl,if_neg (by omega),if_pos (by omega)]
 ·rw[if_neg h];by_cases h2:j<25
  ·rw[if_pos h2,if_pos h2]
  ·rw[if_neg h2,if_neg h2,if_neg (by omega)]
structure AL(at_ ow:Nat->Nat):Prop where
 la:∀o,o<25->at_ o<=96
 lo:∀p,p<96->ow p<=25
def setAt(at_ ow:Nat->Nat)(o p:Nat):(Nat->Nat)×(Nat->Nat) :=
 if aR p o=false then (at_,ow) else if ow p≠0/\ow p≠o+1 then (at_,ow) else (ah at_ o (p+1),ah (if at_ o≠0 then ah ow (at_ o-1) 0 else ow) p (o+1))
def ie(ow:Nat->Nat)(o p:Nat):Int:=if aR p o=false then 1 else if ow p≠0/\ow p≠o+1 then 12 else 0
section
variable{w:World}{m:Nat}{at_ ow:Nat->Nat}
theorem Ai.cat(r:Ai w m at_ ow){o:Nat}(ho:o<25):w.cell? ⟨m,o,none⟩=some (.int .i64 (at_ o:Nat)):=by
 have:=Row.cell r o (by omega);rw[this];unfold pP;rw[if_pos ho]
theorem Ai.cow(r:Ai w m at_ ow){p:Nat}(hp:p<96):w.cell? ⟨m,25+p,none⟩=some (.int .i64 (ow p:Nat)):=by
 have:=Row.cell r (25+p) (by omega);rw[this];unfold pP;rw[if_neg (by omega),Nat.add_sub_cancel_left]
theorem zz(r:Ai w m at_ ow)(W:AL at_ ow)(o p:Nat)(ho:o<=24)(hp:p<96):Spec Tryz.prog 131 #[.pointer (some ⟨m,0,none⟩),.int .i64 o,.int .i64 p] w fun v w'=>v=al (ie ow o p)/\Ai w' m (setAt at_ ow o p).1 (setAt at_ ow o p).2/\Aa [m] w w':=by
 have jG:o<25:=by omega
 have hla:=W.la o jG;have hlo:=W.lo p hp;have main:∀(ow':Nat->Nat) (w1:World),Ai w1 m at_ ow'->Ai ((w1.setCell ⟨m,o,none⟩ (.int .i64 ((p+1:Nat):Int))).setCell ⟨m,25+p,none⟩ (.int .i64 ((o+1:Nat):Int))) m (ah at_ o (p+1)) (ah ow' p (o+1)):=fun ow' w1 h1 =>
  Row.congr (Row.set (Row.congr (Row.set h1 o (.int .i64 ((p+1:Nat):Int))) (fun j hj=>zx at_ ow' (p+1) jG j hj)) (25+p) _) (fun j hj=>zy _ ow' (o+1) hp j hj);refine spec_of_wpE (T:=tt) ai func131 rfl (by decide +kernel) ntmps131 (by simp) ?_;conv=>whnf
 refine Ca.of (aa7 w p o hp ho) ?_;rintro _ _ ⟨rfl,rfl⟩
 cases hh:aR p o with
 | false =>
  have e1:ie ow o p=1:=if_pos hh;have e2:setAt at_ ow o p=(at_,ow):=if_pos hh;rw[e1,e2];conv=>whnf
  repeat ((first|refine Br.t ?_|refine Br.f ?_|refine Pk.f ?_|refine Ru.ak ?_|refine CW.s ?_);conv=>whnf)
  exact⟨rfl,rfl,r,Aa.refl _ _⟩
 | true =>
  have hf:¬aR p o=false:=by rw[hh];simp
  by_cases hb:ow p≠0/\ow p≠o+1
  ·have e1:ie ow o p=12:=by unfold ie;rw[if_neg hf,if_pos hb]
   have e2:setAt at_ ow o p=(at_,ow):=by unfold setAt;rw[if_neg hf,if_pos hb]
   obtain⟨nR,tC⟩:=hb;rw[e1,e2];conv=>whnf
   repeat ((first|(refine Ix.of p (by omega) (by omega) ?_)|(refine Ld.at (by omega) (r.cow hp) ?_)|refine Br.t ?_|refine Br.f ?_|refine Pk.f ?_|refine Pk.t ?_|refine Ar.la ?_|refine Br.nn ?_|refine Ru.ak ?_|refine CW.s ?_);conv=>whnf)
   exact⟨rfl,rfl,r,Aa.refl _ _⟩
  ·have e1:ie ow o p=0:=by unfold ie;rw[if_neg hf,if_neg hb]
   have e2:setAt at_ ow o p=(ah at_ o (p+1),ah (if at_ o≠0 then ah ow (at_ o-1) 0 else ow) p (o+1)):=by unfold setAt;rw[if_neg hf,if_neg hb]
   rw[e1,e2];clear e1 e2 hf;have hb':ow p=0\/ow p=o+1:=by omega
   conv=>whnf
   refine CW.cut (ι:=Unit) (fun _ w'=>w'=w) (fun _=>[(0,.pointer (some ⟨m,0,none⟩)),(1,.int .i64 o),(2,.int .i64 p),(6,.nilIface)]) ai ?_ ?_
   ·rcases hb' with h|h
    all_goals
     conv=>whnf
     repeat ((first|(refine Ix.of p (by omega) (by omega) ?_)|(refine Ld.at (by omega) (r.cow hp) ?_)|refine Br.t ?_|refine Br.f ?_|refine Pk.f ?_|refine Pk.t ?_|refine Ar.la ?_|refine Br.ny ?_|refine Br.nn ?_|refine Ru.ak ?_);conv=>whnf)
     exact⟨(),rfl,⟨rfl,rfl,rfl,rfl,trivial⟩⟩
   ·rintro _ w1 rfl;conv=>whnf
    refine CW.cut (ι:=Unit) (fun _ w'=>Ai w' m at_ (if at_ o≠0 then ah ow (at_ o-1) 0 else ow)/\Aa [m] w1 w') (fun _=>[(0,.pointer (some ⟨m,0,none⟩)),(1,.int .i64 o),(2,.int .i64 p),(6,.nilIface)]) ai ?_ ?_
    ·by_cases h0:at_ o=0
     ·rw[if_neg (by simpa using h0)];conv=>whnf
      repeat ((first|(refine Ix.of o (by omega) (by omega) ?_)|(refine Ld.at (by omega) (r.cat jG) ?_)|refine Br.ny ?_);conv=>whnf)
      exact⟨(),⟨r,Aa.refl _ _⟩,⟨rfl,rfl,rfl,rfl,trivial⟩⟩
     ·rw[if_pos h0];have hx:at_ o-1<96:=by omega
      conv=>whnf
      repeat ((first|(refine Ix.of o (by omega) (by omega) ?_)|(refine Ld.at (by omega) (r.cat jG) ?_)|refine Br.nn ?_);conv=>whnf)
      refine CW.held (fun _=>True) [] (.take 0 (.take 1 (.take 2 (.take 3 (.take 4 (.take 5 (.take 8 (.take 9 (.one 6 (.take 7 (.take 10 (.one 11 (.done))))))))))))) ai (by kernel_rfl) (by kernel_rfl) (by kernel_rfl) trivial ?_;have r1:Ai (w1.drewN 1) m at_ ow:=Row.drewN r 1;have k1:Aa [m] w1 (w1.drewN 1):=(Aa.refl _ _).drewN 1;generalize w1.drewN 1=w2 at *;conv=>whnf
      repeat ((first|(refine Ix.of o (by omega) (by omega) ?_)|(refine Ld.at (by omega) (r1.cat jG) ?_)|(refine Ix.of (at_ o-1) (by omega) (by omega) ?_)|refine HS.t ?_|refine Ar.la ?_);conv=>whnf)
      refine Sd.rowAt r1 (25+(at_ o-1)) (by omega) (by omega) rfl ?_;intro w3 r3 k3;conv=>whnf
      repeat (refine HS.t ?_;conv=>whnf)
      exact⟨(),⟨r3.congr (fun j hj=>zy at_ ow 0 hx j hj),k1.trans k3⟩,⟨rfl,rfl,rfl,rfl,trivial⟩⟩
    ·generalize (if at_ o≠0 then ah ow (at_ o-1) 0 else ow)=ow';rintro _ w2 ⟨r2,k2⟩;conv=>whnf
     refine CW.held (fun _=>True) [] (.take 0 (.take 1 (.take 2 (.take 3 (.take 4 (.take 5 (.take 6 (.take 7 (.take 8 (.take 9 (.take 10 (.take 12 (.take 13 (.one 11 (.take 14 (.one 15 (.done))))))))))))))))) ai (by kernel_rfl) (by kernel_rfl) (by kernel_rfl) trivial ?_;have r3:Ai (w2.drewN 1) m at_ ow':=Row.drewN r2 1;have k3:Aa [m] w1 (w2.drewN 1):=k2.drewN 1;generalize w2.drewN 1=w3 at *;have fin:=main ow' w3 r3;conv=>whnf
     repeat ((first|(refine Ix.of o (by omega) (by omega) ?_)|refine Ar.la ?_);conv=>whnf)
     refine Sd.setAt o (by omega) (r3.cat jG) (Row.free r3 _) rfl ?_;have r4:Ai (w3.setCell ⟨m,o,none⟩ (.int .i64 ((p+1:Nat):Int))) m (ah at_ o (p+1)) ow':=Row.congr (Row.set r3 o _) (fun j hj=>zx at_ ow' (p+1) jG j hj);have k4:=k3.trans (Aa.set (w:=w3) m o (.int .i64 ((p+1:Nat):Int)));rw[show(p:Int)+1=((p+1:Nat):Int) by omega];generalize w3.setCell _ _=w4 at *;conv=>whnf
     repeat ((first|(refine Ix.of p (by omega) (by omega) ?_)|refine HS.t ?_);conv=>whnf)
     refine Sd.setAt (25+p) (by omega) (r4.cow hp) (Row.free r4 _) rfl ?_;have k5:=k4.trans (Aa.set (w:=w4) m (25+p) (.int .i64 ((o+1:Nat):Int)));rw[show(o:Int)+1=((o+1:Nat):Int) by omega];generalize w4.setCell _ _=w5 at *;conv=>whnf
     repeat (refine HS.t ?_;conv=>whnf)
     exact⟨rfl,rfl,fin,k5⟩
theorem iW(r:Ai w m at_ ow)(o:Nat)(ho:o<=24)(hl:at_ o<=96):Spec Tryz.prog 62 #[.pointer (some ⟨m,0,none⟩),.int .i64 o] w fun v w'=>v=(if at_ o=0 then .tuple #[.int .i64 0,al 11] else .tuple #[.int .i64 ((at_ o-1:Nat):Int),al 0])/\w=w':=by
 have jG:o<25:=by omega
 refine spec_of_wpE (T:=tt) ai func62 rfl (by decide +kernel) ntmps62 (by simp) ?_;by_cases h0:at_ o=0
 ·rw[if_pos h0];conv=>whnf
  repeat ((first|(refine Ix.of o (by omega) (by omega) ?_)|(refine Ld.at (by omega) (r.cat jG) ?_)|refine Br.f ?_|refine Pk.f ?_|refine Br.y ?_|refine Br.n ?_|refine CW.s ?_);conv=>whnf)
  exact⟨rfl,rfl,rfl⟩
 ·rw[if_neg h0];conv=>whnf
  repeat ((first|(refine Ix.of o (by omega) (by omega) ?_)|(refine Ld.at (by omega) (r.cat jG) ?_)|refine Br.f ?_|refine Pk.f ?_|refine Ar.la ?_|refine Br.n ?_|refine CW.s ?_);conv=>whnf)
  exact⟨rfl,by rw[show((at_ o-1:Nat):Int)=(at_ o:Int)-1 by omega];rfl,rfl⟩
theorem xF(r:Ai w m at_ ow)(p:Nat)(hp:p<96)(hl:ow p<=25):Spec Tryz.prog 117 #[.pointer (some ⟨m,0,none⟩),.int .i64 p] w fun v w'=>v=(if ow p=0 then .tuple #[.int .i64 0,al 11] else .tuple #[.int .i64 ((ow p-1:Nat):Int),al 0])/\w=w':=by
 refine spec_of_wpE (T:=tt) ai func117 rfl (by decide +kernel) ntmps117 (by simp) ?_;conv=>whnf
 repeat (refine CW.s ?_;conv=>whnf)
 refine Ca.of (aa6 w p hp) ?_;rintro _ _ ⟨rfl,rfl⟩;by_cases h0:ow p=0
 ·rw[if_pos h0];conv=>whnf
  repeat ((first|(refine Ix.of p (by omega) (by omega) ?_)|(refine Ld.at (by omega) (r.cow hp) ?_)|refine Br.f ?_|refine Br.y ?_|refine Ru.ak ?_|refine CW.s ?_);conv=>whnf)
  exact⟨rfl,rfl,rfl⟩
 ·rw[if_neg h0];conv=>whnf
  repeat ((first|(refine Ix.of p (by omega) (by omega) ?_)|(refine Ld.at (by omega) (r.cow hp) ?_)|refine Br.f ?_|refine Ar.la ?_|refine Br.n ?_|refine Ru.ak ?_|refine CW.s ?_);conv=>whnf)
  exact⟨rfl,by rw[show((ow p-1:Nat):Int)=(ow p:Int)-1 by omega];rfl,rfl⟩
theorem aa8(r:Ai w m at_ ow)(o:Nat)(ho:o<=24)(hl:at_ o<=96)(h0:at_ o≠0):Spec Tryz.prog 67 #[.pointer (some ⟨m,0,none⟩),.int .i64 o] w fun v w'=>v=al 0/\Ai w' m (ah at_ o 0) (ah ow (at_ o-1) 0)/\Aa [m] w w':=by
 have jG:o<25:=by omega
 have hx:at_ o-1<96:=by omega
 refine spec_of_wpE (T:=tt) ai func67 rfl (by decide +kernel) ntmps67 (by simp) ?_;conv=>whnf
 refine Ca.of (iW r o ho hl) ?_;rintro _ _ ⟨rfl,rfl⟩;rw[if_neg h0];conv=>whnf
 repeat ((first|refine Br.f ?_|refine Ru.ak ?_|refine CW.s ?_);conv=>whnf)
 refine CW.held (fun _=>True) [] (.take 0 (.take 1 (.take 2 (.take 3 (.take 4 (.take 5 (.take 6 (.take 8 (.take 9 (.one 7 (.take 10 (.one 11 (.done))))))))))))) ai (by kernel_rfl) (by kernel_rfl) (by kernel_rfl) trivial ?_;have r1:Ai (w.drewN 1) m at_ ow:=Row.drewN r 1;have k1:Aa [m] w (w.drewN 1):=(Aa.refl _ _).drewN 1;generalize w.drewN 1=w1 at *;conv=>whnf
 repeat ((refine Ix.of o (by omega) (by omega) ?_);conv=>whnf)
 refine Sd.setAt o (by omega) (r1.cat jG) (Row.free r1 _) rfl ?_;have r2:Ai (w1.setCell ⟨m,o,none⟩ (.int .i64 0)) m (ah at_ o 0) ow:=Row.congr (Row.set r1 o _) (fun j hj=>zx at_ ow 0 jG j hj);have k2:=k1.trans (Aa.set (w:=w1) m o (.int .i64 0));generalize w1.setCell _ _=w2 at *;conv=>whnf
 repeat ((first|(refine Ix.of (at_ o-1) (by omega) (by omega) ?_)|refine HS.t ?_);conv=>whnf)
 refine Sd.setAt (25+(at_ o-1)) (by omega) (r2.cow hx) (Row.free r2 _) rfl ?_;have r3:Ai (w2.setCell ⟨m,25+(at_ o-1),none⟩ (.int .i64 0)) m (ah at_ o 0) (ah ow (at_ o-1) 0):=Row.congr (Row.set r2 _ _) (fun j hj=>zy _ ow 0 hx j hj);have k3:=k2.trans (Aa.set (w:=w2) m (25+(at_ o-1)) (.int .i64 0));generalize w2.setCell _ _=w3 at *;conv=>whnf
 repeat (refine HS.t ?_;conv=>whnf)
 exact⟨rfl,rfl,r3,k3⟩
end
end
namespace Hl
open Go.RowKit
def nU(F:Nat->Int)(i:Nat)(v:Int):Nat->Int:=fun j=>if j=i then v else F j
theorem nu(F:Nat->Int)(i:Nat)(v:Int):put (fun j=>Value.int .i64 (F j)) i (.int .i64 v)=fun j=>.int .i64 (nU F i v j):=by
 funext j;unfold put nU;split<;>rfl
def HB(F:Nat->Int):Prop:=∀b,b<12->(0<=F b/\F b<=65535)/\(0<=F (12+b)/\F (12+b)<=255)/\(0<=F (24+b)/\F (24+b)<=65535)
def qM(F:Nat->Int)(b:Nat):Nat->Int:=nU F b (min (F b+1) 65535)
def rpF(F:Nat->Int)(b:Nat):Nat->Int:=nU F (12+b) (min (F (12+b)+1) 255)
def ux(F:Nat->Int)(b:Nat):Nat->Int:=nU (nU F b 0) (24+b) 0
def ntF(F:Nat->Int):Nat->Int:=fun j=>if j<24 then F j else F (j-24)
def lz(F:Nat->Int):Bool:=(List.range 12).any fun b=>decide (64<=F b-F (24+b))
theorem HB.rd{F:Nat->Int}(h:HB F){k:Nat}(hk:k<12):HB (qM F k):=fun b hb=>by
 have h1:=h b hb;unfold qM nU;rw[if_neg (show ¬12+b=k by omega),if_neg (show ¬24+b=k by omega)];split
 ·rename_i e
  subst e;omega
 ·exact h1
theorem HB.rp{F:Nat->Int}(h:HB F){k:Nat}(hk:k<12):HB (rpF F k):=fun b hb=>by
 have h1:=h b hb;unfold rpF nU;rw[if_neg (show ¬b=12+k by omega),if_neg (show ¬24+b=12+k by omega)];split
 ·rename_i e
  have e:b=k:=by omega
  subst e;omega
 ·exact h1
theorem HB.er{F:Nat->Int}(h:HB F){k:Nat}(hk:k<12):HB (ux F k):=fun b hb=>by
 have h1:=h b hb;unfold ux nU;rw[if_neg (show ¬b=24+k by omega),if_neg (show ¬12+b=24+k by omega),if_neg (show ¬12+b=k by omega),if_neg (show ¬24+b=k by omega)];refine⟨?_,h1.2.1,?_⟩
 ·split
  ·omega
  ·exact h1.1
 ·split
  ·omega
  ·exact h1.2.2
theorem HB.nt{F:Nat->Int}(h:HB F):HB (ntF F):=fun b hb=>by
 have h1:=h b hb;unfold ntF;rw[if_pos (show b<24 by omega),if_pos (show 12+b<24 by omega),if_neg (show ¬24+b<24 by omega),show 24+b-24=b from by omega];exact⟨h1.1,h1.2.1,h1.1⟩
abbrev Hr(w:World)(h:Nat)(F:Nat->Int):Prop:=Row w h 223 36 (fun j=>.int .i64 (F j))
def ofE(b:Int):Int:=if 0<=b/\b<12 then 0 else 1
theorem ua(b:Int)(w:World):Spec Tryz.prog 142 #[.int .i64 b] w fun v w'=>v=al (ofE b)/\w=w':=by
 have hy:(0<=b/\b<12)->ofE b=0:=fun h=>if_pos h;have hn:¬(0<=b/\b<12)->ofE b=1:=fun h=>if_neg h;generalize ofE b=e at *;refine spec_of_wpE (T:=tt) ai func142 rfl (by decide +kernel) ntmps142 (by simp) ?_;conv=>whnf
 repeat' ((first|refine Br.t ?_|refine Br.f ?_|refine Pk.f ?_|refine Pk.t ?_|refine CW.s ?_|refine Br.d (fun _=>?_) (fun _=>?_))<;>conv=>whnf)
 ·rw[hn (by omega)];exact⟨rfl,rfl,rfl⟩
 ·rw[hn (by omega)];exact⟨rfl,rfl,rfl⟩
 ·rw[hy (by omega)];exact⟨rfl,rfl,rfl⟩
section
variable(w:World)(h:Nat)(F:Nat->Int)
theorem uy{k:Nat}(hk:k<12):ofE (k:Int)=0:=if_pos (by omega)
theorem zA(r:Hr w h F)(B:HB F)(k:Nat)(hk:k<12):Spec Tryz.prog 116 #[.pointer (some ⟨h,0,none⟩),.int .i64 k] w fun v w'=>v=.nilIface/\Hr w' h (qM F k)/\Aa [h] w w':=by
 have hb:=(B k hk).1;refine spec_of_wpE (T:=tt) ai func116 rfl (by decide +kernel) ntmps116 (by simp) ?_;conv=>whnf
 repeat (refine CW.s ?_;conv=>whnf)
 refine Ca.of (ua k w) ?_;rintro _ _ ⟨rfl,rfl⟩;rw[uy hk];conv=>whnf
 repeat ((first|refine Br.f ?_|refine Ru.ak ?_);conv=>whnf)
 refine CW.held (fun _=>True) [] (.take 0 (.take 1 (.take 2 (.take 3 (.take 4 (.take 5 (.take 6 (.take 10 (.take 11 (.one 7 (.take 8 (.take 9 (.take 12 (.one 13 (.done))))))))))))))) ai (by kernel_rfl) (by kernel_rfl) (by kernel_rfl) trivial ?_;conv=>whnf
 repeat ((first|(refine Ld.rowAt (r.drewN 1) (k) (by omega) (by omega) ?_)|refine HS.t ?_|refine Ix.n ?_|refine Ar.la ?_);conv=>whnf)
 refine Sd.rowAt (r.drewN 1) (k) (by omega) (by omega) rfl ?_;rw[nu];intro w2 r2 k2;conv=>whnf
 repeat (refine HS.t ?_;conv=>whnf)
 exact⟨rfl,rfl,r2,((Aa.refl _ w).drewN 1).trans k2⟩
theorem afz(r:Hr w h F)(B:HB F)(k:Nat)(hk:k<12):Spec Tryz.prog 118 #[.pointer (some ⟨h,0,none⟩),.int .i64 k] w fun v w'=>v=.nilIface/\Hr w' h (rpF F k)/\Aa [h] w w':=by
 have hb:=(B k hk).2.1;refine spec_of_wpE (T:=tt) ai func118 rfl (by decide +kernel) ntmps118 (by simp) ?_;conv=>whnf
 repeat (refine CW.s ?_;conv=>whnf)
 refine Ca.of (ua k w) ?_;rintro _ _ ⟨rfl,rfl⟩;rw[uy hk];conv=>whnf
 repeat ((first|refine Br.f ?_|refine Ru.ak ?_);conv=>whnf)
 refine CW.held (fun _=>True) [] (.take 0 (.take 1 (.take 2 (.take 3 (.take 4 (.take 5 (.take 6 (.take 10 (.take 11 (.one 7 (.take 8 (.take 9 (.take 12 (.one 13 (.done))))))))))))))) ai (by kernel_rfl) (by kernel_rfl) (by kernel_rfl) trivial ?_;conv=>whnf
 repeat ((first|(refine Ld.rowAt (r.drewN 1) (12+k) (by omega) (by omega) ?_)|refine HS.t ?_|refine Ix.n ?_|refine Ar.la ?_);conv=>whnf)
 refine Sd.rowAt (r.drewN 1) (12+k) (by omega) (by omega) rfl ?_;rw[nu];intro w2 r2 k2;conv=>whnf
 repeat (refine HS.t ?_;conv=>whnf)
 exact⟨rfl,rfl,r2,((Aa.refl _ w).drewN 1).trans k2⟩
theorem nv(r:Hr w h F)(k:Nat)(hk:k<12):Spec Tryz.prog 135 #[.pointer (some ⟨h,0,none⟩),.int .i64 k] w fun v w'=>v=.nilIface/\Hr w' h (ux F k)/\Aa [h] w w':=by
 refine spec_of_wpE (T:=tt) ai func135 rfl (by decide +kernel) ntmps135 (by simp) ?_;conv=>whnf
 repeat (refine CW.s ?_;conv=>whnf)
 refine Ca.of (ua k w) ?_;rintro _ _ ⟨rfl,rfl⟩;rw[uy hk];conv=>whnf
 repeat ((first|refine Br.f ?_|refine Ru.ak ?_);conv=>whnf)
 refine CW.held (fun _=>True) [] (.take 0 (.take 1 (.take 2 (.take 3 (.take 4 (.take 5 (.take 6 (.take 8 (.take 9 (.one 7 (.take 10 (.one 11 (.done))))))))))))) ai (by kernel_rfl) (by kernel_rfl) (by kernel_rfl) trivial ?_;conv=>whnf
 repeat (refine Ix.n ?_;conv=>whnf)
 refine Sd.rowAt (r.drewN 1) k (by omega) (by omega) rfl ?_;rw[nu];intro w2 r2 k2;conv=>whnf
 repeat ((first|refine HS.t ?_|refine Ix.n ?_);conv=>whnf)
 refine Sd.rowAt r2 (24+k) (by omega) (by omega) rfl ?_;rw[nu];intro w3 r3 k3;conv=>whnf
 repeat (refine HS.t ?_;conv=>whnf)
 exact⟨rfl,rfl,r3,(((Aa.refl _ w).drewN 1).trans k2).trans k3⟩
theorem aa9(r:Hr w h F)(k:Nat)(hk:k<12):Spec Tryz.prog 97 #[.pointer (some ⟨h,0,none⟩),.int .i64 k] w fun v w'=>v=.tuple #[.bool (decide (F (k)≥512)),.nilIface]/\w=w':=by
 refine spec_of_wpE (T:=tt) ai func97 rfl (by decide +kernel) ntmps97 (by simp) ?_;conv=>whnf
 repeat (refine CW.s ?_;conv=>whnf)
 refine Ca.of (ua k w) ?_;rintro _ _ ⟨rfl,rfl⟩;rw[uy hk];conv=>whnf
 repeat ((first|(refine Ld.rowAt r (k) (by omega) (by omega) ?_)|refine Br.f ?_|refine Ix.n ?_|refine Ru.ak ?_);conv=>whnf)
 exact⟨rfl,rfl,rfl⟩
theorem ad9(r:Hr w h F)(k:Nat)(hk:k<12):Spec Tryz.prog 101 #[.pointer (some ⟨h,0,none⟩),.int .i64 k] w fun v w'=>v=.tuple #[.bool (decide (F (12+k)≥3)),.nilIface]/\w=w':=by
 refine spec_of_wpE (T:=tt) ai func101 rfl (by decide +kernel) ntmps101 (by simp) ?_;conv=>whnf
 repeat (refine CW.s ?_;conv=>whnf)
 refine Ca.of (ua k w) ?_;rintro _ _ ⟨rfl,rfl⟩;rw[uy hk];conv=>whnf
 repeat ((first|(refine Ld.rowAt r (12+k) (by omega) (by omega) ?_)|refine Br.f ?_|refine Ix.n ?_|refine Ru.ak ?_);conv=>whnf)
 exact⟨rfl,rfl,rfl⟩
end
theorem uz:(Tryz.prog.info? 221).map (·.size)=some 12:=by kernel_rfl
theorem ahX:dV Tryz.prog 3=true:=by kernel_rfl
theorem ak2{F:Nat->Int}{k:Nat}(hk:k<12)(h:64<=F k-F (24+k)):lz F=true:=List.any_eq_true.2 ⟨k,List.mem_range.2 hk,decide_eq_true h⟩
theorem ank{F:Nat->Int}(h:∀k,k<12->¬64<=F k-F (24+k)):lz F=false:=by
 unfold lz;rw[Bool.eq_false_iff];intro e;obtain⟨k,hk,hd⟩:=List.any_eq_true.1 e;exact h k (List.mem_range.1 hk) (of_decide_eq_true hd)
section
variable(w:World)(h:Nat)(F:Nat->Int)
theorem ahY(j:Nat)(hj:j<36):lay (fun j=>Value.int .i64 (F j)) 24 12 (fun j=>.int .i64 (F (0+j))) j=.int .i64 (ntF F j):=by
 unfold lay ntF;by_cases h:j<24
 ·rw[if_neg (by omega),if_pos h]
 ·rw[if_pos (by omega),if_neg h];show Value.int .i64 (F (0+(j-24)))=_;rw[Nat.zero_add]
theorem ahZ(r:Hr w h F):Spec Tryz.prog 161 #[.pointer (some ⟨h,0,none⟩)] w fun v w'=>v=.tuple #[]/\Hr w' h (ntF F)/\Aa [h] w w':=by
 refine spec_of_wpE (T:=tt) ai func161 rfl (by decide +kernel) ntmps161 (by simp) ?_;conv=>whnf
 refine Ru.vR r underlying221 rfl uz (by omega) ?_;conv=>whnf
 refine Ru.im r uz (by omega) (fun _ _=>rfl) ?_;intro w2 r2 k2;conv=>whnf
 exact⟨rfl,rfl,r2.congr (fun j hj=>by rw[Nat.zero_add] at *;exact ahY F j hj),k2⟩
theorem zB(r:Hr w h F)(B:HB F):Spec Tryz.prog 104 #[.pointer (some ⟨h,0,none⟩)] w fun v w'=>v=.bool (lz F)/\w=w':=by
 have hd1:=fun k hk=>ak2 (F:=F) (k:=k) hk;have vT:=ank (F:=F);generalize lz F=d at *;refine spec_of_wpE (T:=tt) ai func104 rfl (by decide +kernel) ntmps104 (by simp) ?_;conv=>whnf
 repeat (refine CW.s ?_;conv=>whnf)
 refine Ru.vR r underlying221 rfl uz (by omega) ?_;conv=>whnf
 refine CW.loop (ι:=Nat) (fun i w'=>(i<=12/\∀j,j<i->¬64<=F j-F (24+j))/\w=w') (fun i=>[(0,.pointer (some ⟨h,0,none⟩)),(8,agg 12 (fun j=>.int .i64 (F (0+j)))),(9,.int .i64 i)]) (fun i=>12-i) 0 ai ⟨⟨by omega,fun j hj=>by omega⟩,rfl⟩ ⟨rfl,rfl,rfl,trivial⟩ ?_;rintro k _ ⟨⟨hk,ha⟩,rfl⟩;by_cases av:k<12
 ·have hb:=B k av;conv=>whnf
  repeat ((first|refine Br.y ?_|refine CW.s ?_);conv=>whnf)
  refine Ru.idx underlying221 av ahX ?_;rw[Nat.zero_add];conv=>whnf
  repeat' ((first|(refine Ld.rowAt r (24+k) (by omega) (by omega) ?_)|refine Ix.n ?_|refine Ar.la ?_|refine Br.d (fun _=>?_) (fun _=>?_))<;>conv=>whnf)
  ·rw[hd1 k av (by omega)];exact⟨rfl,rfl,rfl⟩
  ·exact⟨k+1,⟨⟨av,fun j hj=>by
    by_cases e:j=k
    ·subst e;omega
    ·exact ha j (by omega)⟩,rfl⟩,⟨rfl,rfl,rfl,trivial⟩,by simp only;omega⟩
 ·obtain rfl:k=12:=by omega
  rw[vT ha];conv=>whnf
  repeat ((first|refine Br.f ?_|refine CW.s ?_);conv=>whnf)
  exact⟨rfl,rfl,rfl⟩
end
def ld(f g:Nat->Int):Nat->Int:=fun j=>if j<12 then min (f j) 65535 else if j<24 then min (g (j-12)) 255 else min (f (j-24)) 65535
def aea(n m:Nat)(f g:Nat->Int):Prop:=n=12/\m=12/\∀j,j<12->0<=f j/\0<=g j
theorem HB.new{f g:Nat->Int}(h:∀j,j<12->0<=f j/\0<=g j):HB (ld f g):=fun b hb=>by
 have h1:=h b hb;unfold ld;rw[if_pos hb,if_neg (show ¬12+b<12 by omega),if_pos (show 12+b<24 by omega),if_neg (show ¬24+b<12 by omega),if_neg (show ¬24+b<24 by omega),show 12+b-12=b from by omega,show 24+b-24=b from by omega];omega
def su(f g:Nat->Int)(a b:Nat):Nat->Int:=fun j=>if j<12 then (if j<a then min (f j) 65535 else 0) else if j<24 then (if j-12<b then min (g (j-12)) 255 else 0) else 0
theorem anl(f g:Nat->Int)(k b:Nat)(hk:k<12):nU (su f g k b) k (min (f k) 65535)=su f g (k+1) b:=by
 funext j;unfold nU su;by_cases h:j=k
 ·subst h;rw[if_pos rfl,if_pos hk,if_pos (by omega)]
 ·rw[if_neg h];by_cases ox:j<12
  ·rw[if_pos ox,if_pos ox];by_cases h2:j<k
   ·rw[if_pos h2,if_pos (by omega)]
   ·rw[if_neg h2,if_neg (by omega)]
  ·rw[if_neg ox,if_neg ox]
theorem anm(f g:Nat->Int)(a k:Nat)(hk:k<12):nU (su f g a k) (12+k) (min (g k) 255)=su f g a (k+1):=by
 funext j;unfold nU su;by_cases h:j=12+k
 ·subst h;rw[if_pos rfl,if_neg (by omega),if_pos (by omega),if_pos (by omega),show 12+k-12=k from by omega]
 ·rw[if_neg h];by_cases ox:j<12
  ·rw[if_pos ox,if_pos ox]
  ·rw[if_neg ox,if_neg ox];by_cases jo:j<24
   ·rw[if_pos jo,if_pos jo];by_cases h2:j-12<k
    ·rw[if_pos h2,if_pos (by omega)]
    ·rw[if_neg h2,if_neg (by omega)]
   ·rw[if_neg jo,if_neg jo]
theorem ak3(f g:Nat->Int)(j:Nat)(hj:j<36):lay (fun j=>Value.int .i64 (su f g 12 12 j)) 24 12 (fun j=>.int .i64 (su f g 12 12 (0+j))) j=.int .i64 (ld f g j):=by
 rw[ahY _ j hj];congr 1;unfold ntF su ld;by_cases ox:j<12
 ·rw[if_pos (show j<24 by omega),if_pos ox,if_pos ox,if_pos ox]
 ·by_cases jo:j<24
  ·rw[if_pos jo,if_neg ox,if_pos jo,if_pos (by omega),if_neg ox,if_pos jo]
  ·rw[if_neg jo,if_pos (show j-24<12 by omega),if_pos (show j-24<12 by omega),if_neg ox,if_neg jo]
theorem ann(w:World):(Instr.build 223 #[]).run Tryz.prog w=.ok (agg 36 (fun _=>.int .i64 0)) w:=by kernel_rfl
theorem ah0(f g:Nat->Int):(fun j=>Value.int .i64 (su f g 0 0 j))=fun _=>.int .i64 0:=by
 funext j;unfold su;by_cases ox:j<12
 ·rw[if_pos ox,if_neg (by omega)]
 ·rw[if_neg ox];by_cases jo:j<24
  ·rw[if_pos jo,if_neg (by omega)]
  ·rw[if_neg jo]
def Bc(n m:Nat)(f g:Nat->Int)(w:World)(v:Value)(w':World):Prop:=Aa [] w w'/\((aea n m f g/\∃h,v=.tuple #[.pointer (some ⟨h,0,none⟩),.nilIface]/\Hr w' h (ld f g)/\w.heap.size<=h)\/(¬aea n m f g/\v=.tuple #[.pointer none,al 1]))
section
variable(A B:Option Addr)(n m c d:Nat)(f g:Nat->Int)(w:World)(ra:Rd w A n (fun j=>.int .i64 (f j)))(rb:Rd w B m (fun j=>.int .i64 (g j)))(hf:∀j,-9223372036854775808<=f j/\f j<=9223372036854775807)(hg:∀j,-9223372036854775808<=g j/\g j<=9223372036854775807)
include ra rb hf hg
theorem yV:Spec Tryz.prog 125 #[.slice A n c,.slice B m d] w (Bc n m f g w):=by
 refine spec_of_wpE (T:=tt) ai func125 rfl (by decide +kernel) ntmps125 (by simp) ?_;by_cases hn:n=12
 case neg =>
  conv=>whnf
  repeat ((first|refine Br.t ?_|refine Pk.t ?_|refine Br.nn ?_|refine CW.s ?_);conv=>whnf)
  exact⟨rfl,Aa.refl _ _,.inr ⟨fun h=>hn h.1,rfl⟩⟩
 by_cases hm:m=12
 case neg =>
  conv=>whnf
  repeat ((first|refine Br.f ?_|refine Pk.f ?_|refine Br.ny ?_|refine Br.nn ?_|refine CW.s ?_);conv=>whnf)
  exact⟨rfl,Aa.refl _ _,.inr ⟨fun h=>hm h.2.1,rfl⟩⟩
 subst hn;subst hm;obtain⟨ba,oa,rfl,ca⟩:=ra (by omega);obtain⟨bb,ob,rfl,cb⟩:=rb (by omega);conv=>whnf
 repeat ((first|refine Br.f ?_|refine Pk.f ?_|refine CW.s ?_);conv=>whnf)
 refine Ru.of (ann w) ?_;rw[<-ah0 f g];conv=>whnf
 refine Ru.dr ?_;intro h w1 hh dj r k1;conv=>whnf
 repeat (refine CW.s ?_;conv=>whnf)
 refine CW.loop (ι:=Nat) (fun i w'=>(i<=12/\∀j,j<i->0<=f j/\0<=g j)/\Hr w' h (su f g i i)/\Aa [] w w') (fun i=>[(0,.slice (some ⟨ba,oa,none⟩) 12 c),(1,.slice (some ⟨bb,ob,none⟩) 12 d),(6,.pointer (some ⟨h,0,none⟩)),(19,.int .i64 i)]) (fun i=>12-i) 0 ai ⟨⟨by omega,fun j hj=>by omega⟩,r,k1⟩ ⟨rfl,rfl,rfl,rfl,trivial⟩ ?_;rintro k wr ⟨⟨hk,ha⟩,r,kk⟩;by_cases av:k<12
 ·have fa:=hf k;have ga:=hg k;have ea:wr.cell? ⟨ba,oa+k,none⟩=some (.int .i64 (f k)):=(kk.cell (p:=⟨ba,oa+k,none⟩) (aZ (ca k av)) (by simp)).trans (ca k av);have eb:wr.cell? ⟨bb,ob+k,none⟩=some (.int .i64 (g k)):=(kk.cell (p:=⟨bb,ob+k,none⟩) (aZ (cb k av)) (by simp)).trans (cb k av);by_cases hfk:f k<0
  ·conv=>whnf
   repeat ((first|refine Br.t ?_|refine Pk.t ?_|refine Ix.n ?_|refine Br.y ?_|refine Ld.of (by assumption) ?_|refine CW.s ?_);conv=>whnf)
   exact⟨rfl,kk,.inr ⟨fun e=>by have:=(e.2.2 k av).1;omega,rfl⟩⟩
  by_cases hgk:g k<0
  ·conv=>whnf
   repeat ((first|refine Br.f ?_|refine Pk.f ?_|refine Ix.n ?_|refine Br.y ?_|refine Br.n ?_|refine Ld.of (by assumption) ?_|refine CW.s ?_);conv=>whnf)
   exact⟨rfl,kk,.inr ⟨fun e=>by have:=(e.2.2 k av).2;omega,rfl⟩⟩
  conv=>whnf
  repeat ((first|refine Br.f ?_|refine Pk.f ?_|refine Ix.n ?_|refine Br.y ?_|refine Br.n ?_|refine Ld.of (by assumption) ?_|refine CW.s ?_);conv=>whnf)
  refine CW.held (fun _=>True) [] (.take 0 (.take 1 (.take 2 (.take 3 (.take 4 (.take 7 (.take 8 (.one 5 (.take 6 (.take 9 (.one 10 (.done)))))))))))) ai (by kernel_rfl) (by kernel_rfl) (by kernel_rfl) trivial ?_;conv=>whnf
  repeat ((first|(refine Ld.of (v:=.int .i64 (f k)) ea ?_)|refine HS.t ?_|refine Ix.n ?_);conv=>whnf)
  refine Sd.rowAt (r.drewN 1) k (by omega) (by omega) rfl ?_;rw[nu,anl f g k k av];intro w2 r2 k2;have dh:Aa [] w w2:=(kk.drewN 1).then k2 (fun x hx=>.inr (by rw[List.mem_singleton.1 hx,hh];exact Nat.le_refl _));have eb2:w2.cell? ⟨bb,ob+k,none⟩=some (.int .i64 (g k)):=(dh.cell (p:=⟨bb,ob+k,none⟩) (aZ (cb k av)) (by simp)).trans (cb k av);conv=>whnf
  repeat (refine HS.t ?_;conv=>whnf)
  refine CW.held (fun _=>True) [] (.take 0 (.take 1 (.take 2 (.take 3 (.take 4 (.take 7 (.take 8 (.one 5 (.take 6 (.take 9 (.one 10 (.done)))))))))))) ai (by kernel_rfl) (by kernel_rfl) (by kernel_rfl) trivial ?_;conv=>whnf
  repeat ((first|(refine Ld.of (v:=.int .i64 (g k)) eb2 ?_)|refine HS.t ?_|refine Ix.n ?_);conv=>whnf)
  refine Sd.rowAt (r2.drewN 1) (12+k) (by omega) (by omega) rfl ?_;rw[nu,anm f g (k+1) k av];intro w3 r3 k3;have bG:Aa [] w w3:=(dh.drewN 1).then k3 (fun x hx=>.inr (by rw[List.mem_singleton.1 hx,hh];exact Nat.le_refl _));conv=>whnf
  repeat ((first|refine HS.t ?_|refine Ar.la ?_);conv=>whnf)
  exact⟨k+1,⟨⟨av,fun j hj=>by
   by_cases e:j=k
   ·subst e;omega
   ·exact ha j (by omega)⟩,r3,bG⟩,⟨rfl,rfl,rfl,rfl,trivial⟩,by simp only;omega⟩
 ·obtain rfl:k=12:=by omega
  conv=>whnf
  repeat ((first|refine Br.f ?_|refine CW.s ?_);conv=>whnf)
  refine Ru.vR r underlying221 rfl uz (by omega) ?_;conv=>whnf
  refine Ru.im r uz (by omega) (fun _ _=>rfl) ?_;intro w2 r2 k2;conv=>whnf
  exact⟨rfl,kk.then k2 (fun x hx=>.inr (by rw[List.mem_singleton.1 hx,hh];exact Nat.le_refl _)),.inl ⟨⟨rfl,rfl,ha⟩,h,rfl,r2.congr (fun j hj=>ak3 f g j hj),by rw[hh];exact Nat.le_refl _⟩⟩
end
theorem afA(w:World)(x:Operand)(a:Addr)(n c:Nat):(do eqGuard .eql 23 x (.const (.slice none 0 0)) (.slice (some a) n c) (.slice none 0 0);binOp .eql 23 (.slice (some a) n c) (.slice none 0 0):Sem Value).run Tryz.prog w=.ok (.bool false) w:=by kernel_rfl
theorem ah1(w:World):(Instr.buildSlice 23 0 #[]).run Tryz.prog w=.ok (.slice (some ⟨w.heap.size,0,none⟩) 0 0) (w.alloc (.cells #[] 3)):=by kernel_rfl
structure Ck(w0 w:World)(X:Option Addr)(n c:Nat)(f:Nat->Int):Prop where
 ly:Ly w 3 1 X n c (fun j=>.int .i64 (f j))
 new:∀x,x∈aK X->w0.heap.size<=x
 ab:Aa [] w0 w
theorem jQ(a:Addr)(n c:Nat)(f:Nat->Int)(w:World)(r:Rd w (some a) n (fun j=>.int .i64 (f j)))(hc:n<=c)(hn:n*8<=140737488355328) :
  Spec Tryz.prog 140 #[.slice (some a) n c] w fun v w'=>∃Y e,v=.slice Y n e/\Ck w w' Y n e f:=by
 obtain⟨i0,hi,lZ,lR,l4⟩:=info_parts tf;refine spec_of_wpE (T:=tt) ai func140 rfl (by decide +kernel) ntmps140 (by simp) ?_;conv=>whnf
 repeat (refine CW.s ?_;conv=>whnf)
 refine Ru.of (afA w _ a n c) ?_;conv=>whnf
 repeat (refine Br.f ?_;conv=>whnf)
 refine Ru.of (ah1 w) ?_;have l0:Ly (w.alloc (.cells #[] 3)) 3 1 (some ⟨w.heap.size,0,none⟩) 0 0 (fun j=>.int .i64 (f j)):=Ly.oG (heap_alloc_new w _) (Nat.le_refl _) (by simp) (by simp[maxLen]) (fun j hj=>by omega);have k0:Aa [] w (w.alloc (.cells #[] 3)):=(Aa.refl _ _).alloc _;conv=>whnf
 refine Bu.append underlying23 hi lZ lR l4 rfl (by omega) l0 _ (by rw[Nat.mul_one];exact r.aj k0) hc (fun e=>by cases e) (fun j hj=>rfl) (by simp only[maxLen];omega) (by omega) ?_;intro Y e w' hy hk da gZ;have gN:∀x,x∈aK Y->w.heap.size<=x:=fun x hx=>by
  rcases da with h|h
  ·rw[h] at hx;rw[List.mem_singleton.1 hx];exact Nat.le_refl _
  ·rw[h] at hx;rw[List.mem_singleton.1 hx];exact k0.size
 have hkw:Aa [] w w':=k0.then hk (fun x hx=>.inr (by rw[List.mem_singleton.1 hx];exact Nat.le_refl _));rw[Nat.zero_add] at *;conv=>whnf
 exact⟨rfl,Y,e,rfl,hy.congr (fun j hj=>by simp),gN,hkw⟩
section
variable(w:World)(h:Nat)(F:Nat->Int)
theorem ah2(r:Hr w h F):Spec Tryz.prog 91 #[.pointer (some ⟨h,0,none⟩)] w fun v w'=>∃Y e,v=.slice Y 12 e/\Ck w w' Y 12 e F:=by
 refine spec_of_wpE (T:=tt) ai func91 rfl (by decide +kernel) ntmps91 (by simp) ?_;conv=>whnf
 refine Ru.jO (sz:=1) underlying221 (by kernel_rfl) ?_;conv=>whnf
 refine Ca.of (jQ ⟨h,0+0,none⟩ 12 12 F w (fun _=>⟨h,0,rfl,fun j hj=>by rw[Nat.zero_add];exact r.cell j (by omega)⟩) (by omega) (by omega)) ?_;rintro _ w2 ⟨Y,e,rfl,O⟩;conv=>whnf
 exact⟨rfl,Y,e,rfl,O⟩
theorem afB(r:Hr w h F):Spec Tryz.prog 92 #[.pointer (some ⟨h,0,none⟩)] w fun v w'=>∃Y e,v=.slice Y 12 e/\Ck w w' Y 12 e (fun j=>F (12+j)):=by
 refine spec_of_wpE (T:=tt) ai func92 rfl (by decide +kernel) ntmps92 (by simp) ?_;conv=>whnf
 refine Ru.jO (sz:=1) underlying221 (by kernel_rfl) ?_;conv=>whnf
 refine Ca.of (jQ ⟨h,0+12,none⟩ 12 12 (fun j=>F (12+j)) w (fun _=>⟨h,12,by rw[Nat.zero_add],fun j hj=>r.cell (12+j) (by omega)⟩) (by omega) (by omega)) ?_;rintro _ w2 ⟨Y,e,rfl,O⟩;conv=>whnf
 exact⟨rfl,Y,e,rfl,O⟩
end
end Hl
section
open Go.RowKit
def lf(l:List Nat)(j:Nat):Value:=.int .i64 ((l.getD j 0:Nat):Int)
abbrev Ls(w:World)(X:Option Addr)(c:Nat)(l:List Nat):Prop:=Ly w 3 1 X l.length c (lf l)
theorem ak4(l:List Nat)(x j:Nat)(hj:j<(l++[x]).length):(if j<l.length then lf l j else .int .i64 (x:Nat))=lf (l++[x]) j:=by
 unfold lf;by_cases h:j<l.length
 ·rw[if_pos h];simp[List.getD_eq_getElem?_getD,List.getElem?_append_left h]
 ·have:j=l.length:=by simp at hj;omega
  subst this;simp
theorem Bu.push{w:World}{X:Option Addr}{c:Nat}{l:List Nat}{ty:TypeId}{cs:Array Bool}{K:Value->World->Prop}(h:Ls w X c l)(x:Nat){B:Option Addr}{d:Nat}(hr:Rd w B 1 (fun _=>.int .i64 (x:Nat)))(hd:1<=d)(hb:l.length<=1000000)
  (k:∀Y e w',Ls w' Y e (l++[x])->Aa (aK X) w w'->(Y=X\/Y=some ⟨w.heap.size,0,none⟩)->K (.slice Y (l++[x]).length e) w'):Bu Tryz.prog .append #[23,23] ty cs #[.slice X l.length c,.slice B 1 d] w K:=by
 obtain⟨i0,hi,lZ,lR,l4⟩:=info_parts tf
 refine Bu.append underlying23 hi lZ lR l4 rfl (by omega) h (fun _=>.int .i64 (x:Nat)) (by rw[Nat.mul_one];exact hr) hd (fun e=>by
  obtain⟨b,o,hb,_⟩:=hr (by omega);rw[hb] at e
  cases e) (fun _ _=>rfl) (by simp only[maxLen];omega) (by omega) ?_
 intro Y e w' hy hk da _;have hy2:Ls w' Y e (l++[x]):=by
  have:(l++[x]).length=l.length+1:=by simp
  unfold Ls;rw[this];refine hy.congr (fun j hj=>?_);simp only[Nat.mul_one] at hj ⊢;exact ak4 l x j (by simp;omega)
 have:=k Y e w' hy2 hk da
 rwa [show(l++[x]).length=l.length+1 by simp] at this
theorem ah3(v:Int)(w:World):(Instr.buildSlice 23 1 #[(0,.int .i64 v)]).run Tryz.prog w=.ok (.slice (some ⟨w.heap.size,0,none⟩) 1 1) (w.alloc (.cells #[.int .i64 v] 3)):=by kernel_rfl
def gT(ow:Nat->Nat)(b:Nat):Nat->List Nat
 |0=>[]
 |k+1=>if ow (8*b+k)=0 then gT ow b k else gT ow b k++[ow (8*b+k)-1]
def bY(ow:Nat->Nat)(b:Nat):List Nat:=gT ow b 8
theorem sN(ow:Nat->Nat)(b:Nat):∀k,(gT ow b k).length<=k
 |0=>Nat.le_refl _
 | k+1=>by
  have:=sN ow b k;unfold gT;split
  ·omega
  ·simp;omega
def iX(at_:Nat->Nat):Nat->Nat->Nat
 |0,_=>0
 |n+1,b=>iX at_ n b+(if at_ n≠0/\(at_ n-1)/8=b then 1 else 0)
def lv(at_:Nat->Nat)(b:Nat):Nat:=iX at_ 25 b
theorem aeb(at_:Nat->Nat):∀n b,iX at_ n b<=n
 |0,_=>Nat.le_refl _
 | n+1,b=>by
  have:=aeb at_ n b;unfold iX;split<;>omega
theorem ah4(w:World):(Instr.makeSlice 23 (.int .i64 12) (.int .i64 12)).run Tryz.prog w=.ok (.slice (some ⟨w.heap.size,0,none⟩) 12 12) (w.alloc (.cells (madeCells #[.int .i64 0] 12) 3)):=by kernel_rfl
theorem ano:(Tryz.prog.info? 59).map (·.size)=some 25:=by kernel_rfl
theorem Ru.anp{P:Program}{w:World}{t e:TypeId}{n g o l h:Nat}{x y:Int}{K:Value->World->Prop}(ex:x=(l:Int))(ey:y=(h:Int))(hu:P.underlying t=some (.array n e))(hs:kO P e 1=true)(hl:l<=h)(hh:h<=n)(hln:l<n)(k:K (.slice (some ⟨g,o+l,none⟩) (h-l) (n-l)) w) :
  Ru P (Instr.sliceAt t (.pointer (some ⟨g,o,none⟩)) (some (.int .i64 x)) (some (.int .i64 y)) none) w K:=by
 subst ex ey;have hn:P.arrayLen t=n:=by simp[Program.arrayLen,hu]
 have he:P.elem t=e:=by simp[Program.elem,hu]
 have h2:(sizeOf (P.elem t)).run P w=.ok 1 w:=by rw[he];exact dp hs w
 refine⟨_,_,?_,k⟩;rw[run_sliceAt_array_lh w t _ (by rw[hn,he];exact hu) .i64 .i64 l h (by omega) (by omega) (by rw[hn];omega),h2];simp only[Result.andThen_ok,Int.toNat_natCast,slicedAt,hn,if_neg (show ¬n=l by omega),fW,Nat.mul_one]
section
variable{w:World}{m:Nat}{at_ ow:Nat->Nat}
def CV(w:World)(l:List Nat)(v:Value)(w':World):Prop:=∃Y e,v=.slice Y l.length e/\Ls w' Y e l/\(∀x,x∈aK Y->w.heap.size<=x)/\Aa [] w w'
theorem ah5(r:Ai w m at_ ow)(b:Nat)(hb:b<12)(hl:∀p,p<96->ow p<=25):Spec Tryz.prog 183 #[.pointer (some ⟨m,0,none⟩),.int .i64 b] w fun v w'=>∃u,v=.tuple #[u,al 0]/\CV w (bY ow b) u w':=by
 refine spec_of_wpE (T:=tt) ai func183 rfl (by decide +kernel) ntmps183 (by simp) ?_;conv=>whnf
 refine Ca.args (args' := #[.int .i64 b,.int .i64 ((0:Nat):Int)]) rfl ?_;refine Ca.of (qL w b 0 hb (by omega)) ?_;rintro _ _ ⟨rfl,rfl⟩;rw[if_pos (by omega)];conv=>whnf
 repeat ((first|refine Br.f ?_|refine Ar.la ?_|refine Ru.ak ?_|refine CW.s ?_);conv=>whnf)
 refine Ru.anp (l:=b*8) (h:=b*8+8) (by omega) (by omega) underlying186 (by kernel_rfl) (by omega) (by omega) (by omega) ?_;conv=>whnf
 refine CW.loop (ι:=Nat×Option Addr×Nat) (fun i w'=>i.1<=8/\Ls w' i.2.1 i.2.2 (gT ow b i.1)/\(∀x,x∈aK i.2.1->w.heap.size<=x)/\Aa [] w w') (fun i=>[(8,.slice i.2.1 (gT ow b i.1).length i.2.2),(25,.slice (some ⟨m,0+25+b*8,none⟩) (b*8+8-b*8) (96-b*8)),(26,.int .i64 8),(27,.int .i64 i.1)]) (fun i=>8-i.1) (0,none,0) ai ⟨by simp,Ly.nil _ _ _ _,(fun _ h=>by cases h),Aa.refl _ _⟩ ⟨rfl,rfl,(by rw[show b*8+8-b*8=8 by omega];rfl),rfl,trivial⟩ ?_;rintro⟨i,X,c⟩ wr ⟨hi,hX,hn,kr⟩;simp only at hi hX hn ⊢;by_cases av:i<8
 ·have bM:=(Ai.cow (Row.ab r kr (by simp)) (p:=8*b+i) (by omega));have hle:=hl (8*b+i) (by omega);have hd:gT ow b (i+1)=if ow (8*b+i)=0 then gT ow b i else gT ow b i++[ow (8*b+i)-1]:=rfl;have hlen:=sN ow b i;generalize ow (8*b+i)=x at *;by_cases h0:x=0
  ·rw[if_pos h0] at hd;conv=>whnf
   repeat ((first|(refine Ld.at (by omega) bM ?_)|refine Ix.n ?_|refine Ar.la ?_|refine Br.y ?_|refine Br.ny ?_|refine CW.s ?_);conv=>whnf)
   rw[<-hd] at hX;exact⟨(i+1,X,c),⟨av,hX,hn,kr⟩,⟨by simp only[hd];rfl,rfl,rfl,vi (by simp only;omega),trivial⟩,by simp only;omega⟩
  ·rw[if_neg h0] at hd;conv=>whnf
   repeat ((first|(refine Ld.at (by omega) bM ?_)|refine Ix.n ?_|refine Ar.la ?_|refine Br.y ?_|refine Br.nn ?_|refine CW.s ?_);conv=>whnf)
   refine Ru.of (ah3 _ _) ?_;have ha:Rd (wr.alloc (.cells #[.int .i64 ((x:Int)-1)] 3)) (some ⟨wr.heap.size,0,none⟩) 1 (fun _=>.int .i64 ((x-1:Nat):Int)):=(ab5 (heap_alloc_new _ _)).congr (fun _ _=>vi (by omega));have ka:Aa [] wr (wr.alloc (.cells #[.int .i64 ((x:Int)-1)] 3)):=(Aa.refl _ _).alloc _;generalize wr.alloc _=wa at *;conv=>whnf
   refine Bu.push (hX.aj ka) (x-1) ha (by omega) (by omega) ?_;intro Y e w2 hY k2 da;conv=>whnf
   repeat (refine Ar.la ?_;conv=>whnf)
   rw[<-hd] at hY ⊢;refine⟨(i+1,Y,e),⟨av,hY,fun y hy=>?_,(kr.trans ka).then k2 (fun y hy=>.inr (hn y hy))⟩,⟨rfl,rfl,rfl,vi (by simp only;omega),trivial⟩,by simp only;omega⟩;rcases da with h|h
   ·exact hn y (h ▸ hy)
   ·simp only at hy;rw[h] at hy;rw[List.mem_singleton.1 hy];have:=kr.size;have:=ka.size;simp only;omega
 ·obtain rfl:i=8:=by omega
  conv=>whnf
  repeat ((first|refine Br.f ?_|refine CW.s ?_);conv=>whnf)
  exact⟨rfl,_,rfl,X,c,rfl,hX,hn,kr⟩
theorem fj(r:Ai w m at_ ow)(hl:∀o,o<25->at_ o<=96):Spec Tryz.prog 96 #[.pointer (some ⟨m,0,none⟩)] w fun v w'=>∃g,v=.slice (some ⟨g,0,none⟩) 12 12/\Row w' g 3 12 (fun b=>.int .i64 (lv at_ b:Nat))/\w.heap.size<=g/\Aa [] w w':=by
 refine spec_of_wpE (T:=tt) ai func96 rfl (by decide +kernel) ntmps96 (by simp) ?_;conv=>whnf
 refine Ru.of (ah4 w) ?_;have rg:Row (w.alloc (.cells (madeCells #[.int .i64 0] 12) 3)) w.heap.size 3 12 (fun b=>.int .i64 (iX at_ 0 b:Nat)):=Row.made _ _ _ _;have k1:Aa [] w (w.alloc (.cells (madeCells #[.int .i64 0] 12) 3)):=(Aa.refl _ _).alloc _;generalize hg:w.heap.size=g at *;have hgw:w.heap.size<=g:=by omega
 have hml:=r.lt;generalize w.alloc _=w1 at *;have r1:Ai w1 m at_ ow:=Row.ab r k1 (by simp);have dmg:m≠g:=by omega
 conv=>whnf
 repeat (refine CW.s ?_;conv=>whnf)
 refine Ru.cx r1 underlying59 rfl ano (by omega) (q:=fun j=>.int .i64 (at_ j:Nat)) (fun j hj=>by
  show pP at_ ow (0+j)=_;unfold pP;rw[Nat.zero_add,if_pos hj]) ?_
 conv=>whnf
 refine CW.loop (ι:=Nat) (fun i w'=>i<=25/\Row w' g 3 12 (fun b=>.int .i64 (iX at_ i b:Nat))/\Aa [g] w1 w') (fun i=>[(3,.slice (some ⟨g,0,none⟩) 12 12),(10,agg 25 (fun j=>.int .i64 (at_ j:Nat))),(11,.int .i64 i)]) (fun i=>25-i) 0 ai ⟨by omega,rg,Aa.refl _ _⟩ ⟨rfl,rfl,rfl,trivial⟩ ?_;rintro i wr ⟨hi,ri,ki⟩;by_cases av:i<25
 ·have hd:∀b,iX at_ (i+1) b=iX at_ i b+(if at_ i≠0/\(at_ i-1)/8=b then 1 else 0):=fun b=>rfl;have hle:=hl i av;by_cases h0:at_ i=0
  ·conv=>whnf
   repeat ((first|(refine Ru.idx underlying59 av (by kernel_rfl) ?_)|refine Ar.la ?_|refine Br.y ?_|refine Br.ny ?_|refine CW.s ?_);conv=>whnf)
   exact⟨i+1,⟨av,ri.congr (fun b _=>by rw[hd,if_neg (fun e=>e.1 h0),Nat.add_zero]),ki⟩,⟨rfl,rfl,vi (by omega),trivial⟩,by simp only;omega⟩
  ·have hb:(at_ i-1)/8<12:=by omega
   have sO:=aeb at_ i ((at_ i-1)/8);conv=>whnf
   repeat ((first|(refine Ru.idx underlying59 av (by kernel_rfl) ?_)|(refine Ix.of ((at_ i-1)/8) (by omega) (by omega) ?_)|(refine Ld.rowAt ri ((at_ i-1)/8) (by omega) (by omega) ?_)|refine Ar.la ?_|refine Dv.q ?_|refine Br.y ?_|refine Br.nn ?_|refine CW.s ?_);conv=>whnf)
   refine Sd.rowAt ri ((at_ i-1)/8) (by omega) (by omega) rfl ?_;intro w2 r2 k2;conv=>whnf
   repeat (refine Ar.la ?_;conv=>whnf)
   refine⟨i+1,⟨av,r2.congr (fun b _=>?_),ki.trans k2⟩,⟨rfl,rfl,vi (by omega),trivial⟩,by simp only;omega⟩;unfold put;rw[hd];by_cases e:b=(at_ i-1)/8
   ·subst e;rw[if_pos rfl,if_pos ⟨h0,rfl⟩];exact vi (by omega)
   ·rw[if_neg e,if_neg (fun h=>e h.2.symm),Nat.add_zero]
 ·obtain rfl:i=25:=by omega
  conv=>whnf
  repeat ((first|refine Br.f ?_|refine CW.s ?_);conv=>whnf)
  exact⟨rfl,g,rfl,ri,by omega,k1.then ki (fun x hx=>.inr (by rw[List.mem_singleton.1 hx];omega))⟩
theorem ah6:wm (fun _=>2) 121 (zcl 188).toList 0=true:=by kernel_rfl
theorem acY(w:World):(Instr.build 188 #[]).run Tryz.prog w=.ok (.agg (zcl 188)) w:=by kernel_rfl
theorem afC(w:World):(Instr.build 188 #[]).run Tryz.prog w=.ok (agg 121 (pP (fun _=>0) (fun _=>0))) w:=by
 rw[acY,mz ah6];show Result.ok (agg 121 (fun j=>qw 2)) w=_;rw[br (g:=pP (fun _=>0) (fun _=>0)) (fun j hj=>by unfold pP;split<;>rfl)]
theorem xG:Spec Tryz.prog 128 #[] w fun v w'=>∃g,v=.pointer (some ⟨g,0,none⟩)/\Ai w' g (fun _=>0) (fun _=>0)/\w.heap.size<=g/\Aa [] w w':=by
 refine spec_of_wpE (T:=tt) ai func128 rfl (by decide +kernel) ntmps128 (by simp) ?_;conv=>whnf
 refine Ru.of (afC w) ?_;conv=>whnf
 refine Ru.dr ?_;intro g w1 hg dj r1 k1;conv=>whnf
 exact⟨rfl,g,rfl,r1,by omega,k1⟩
theorem afD:wm (fun _=>2) 13 (zcl 220).toList 0=true:=by kernel_rfl
theorem aba(w:World):(Instr.build 220 #[]).run Tryz.prog w=.ok (.agg (zcl 220)) w:=by kernel_rfl
theorem acZ(w:World):(Instr.build 220 #[]).run Tryz.prog w=.ok (agg 13 (kc (fun _=>0) 0)) w:=by
 rw[aba,mz afD];show Result.ok (agg 13 (fun j=>qw 2)) w=_;rw[br (g:=kc (fun _=>0) 0) (fun j hj=>by unfold kc;split<;>rfl)]
theorem uA:Spec Tryz.prog 127 #[] w fun v w'=>∃g,v=.pointer (some ⟨g,0,none⟩)/\Aj w' g (fun _=>0) 0/\w.heap.size<=g/\Aa [] w w':=by
 refine spec_of_wpE (T:=tt) ai func127 rfl (by decide +kernel) ntmps127 (by simp) ?_;conv=>whnf
 refine Ru.of (acZ w) ?_;conv=>whnf
 refine Ru.dr ?_;intro g w1 hg dj r1 k1;conv=>whnf
 exact⟨rfl,g,rfl,r1,by omega,k1⟩
end
structure Cp.told(p:Cp):Prop where
 next:0<=p.next/\p.next<=1099511627775
 cur:0<=p.cur/\p.cur<=95
 fl:∀j,j<24->0<=p.fl j/\p.fl j<=1099511627775
 rd:∀j,j<12->0<=p.reads j/\p.reads j<=65535
 sc:∀j,j<12->0<=p.ic j/\p.ic j<=255
def gU(p:Cp):Nat->Nat
 |0=>0
 |k+1=>gU p k+(if p.bad k then 2^k else 0)
def ao8(p:Cp):Nat:=gU p 12
theorem mO(p:Cp):∀k,gU p k<2^k
 |0=>(by decide:0<2^0)
 | k+1=>by
  have:=mO p k;unfold gU;rw[Nat.pow_succ];split<;>omega
def l9(p:Cp)(j:Nat):Int :=
 if j<120 then byteOf (p.fl (j/5)) (j%5) else if j<125 then byteOf p.next (j-120) else if j<127 then byteOf (ao8 p:Nat) (j-125) else if j<128 then byteOf p.cur 0
 else if j<152 then byteOf (p.reads ((j-128)/2)) ((j-128)%2) else if j<164 then byteOf (p.ic (j-152)) 0 else 0
theorem ah7(p:Cp)(j:Nat):0<=l9 p j/\l9 p j<=255:=by
 unfold l9;split
 ·exact dB _ _
 ·split
  ·exact dB _ _
  ·split
   ·exact dB _ _
   ·split
    ·exact dB _ _
    ·split
     ·exact dB _ _
     ·split
      ·exact dB _ _
      ·omega
theorem afE(w:World)(v m:Int):Spec Tryz.prog 163 #[.int .i64 v,.int .i64 m] w fun u w'=>u=.bool (decide (0<=v/\v<=m))/\w=w':=by
 refine spec_of_wpE (T:=tt) ai func163 rfl (by decide +kernel) ntmps163 (by simp) ?_;by_cases h:0<=v
 ·conv=>whnf
  repeat ((first|refine Br.t ?_|refine Pk.t ?_|refine Br.y ?_);conv=>whnf)
  exact⟨rfl,vb (by simp[h]),rfl⟩
 ·conv=>whnf
  repeat ((first|refine Br.f ?_|refine Pk.f ?_|refine Br.n ?_);conv=>whnf)
  exact⟨rfl,vb (by simp[h]),rfl⟩
theorem iY(w:World){v m:Int}(h:0<=v/\v<=m):Spec Tryz.prog 163 #[.int .i64 v,.int .i64 m] w fun u w'=>u=.bool true/\w=w':=by
 have:=afE w v m
 rwa [decide_eq_true h] at this
theorem Bu.ao9{w:World}{t ty e:TypeId}{i:TypeInfo}{cs:Array Bool}{K:Value->World->Prop}(ht:Tryz.prog.underlying t=some (.slice e))(hi:Tryz.prog.info? e=some i)(h1:i.size=1){q n c d:Nat}{F:Nat->Value}(r:Row w q e c F)(hn:n<c)
  {A:Option Addr} {u:Value} (ha:Rd w A 1 (fun _=>u)) (hu:u.oneCell'=true) (k:∀w',Row w' q e c (put F n u)->Aa [q] w w'->K (.slice (some ⟨q,0,none⟩) (n+1) c) w') :
  Bu Tryz.prog .append #[t,t] ty cs #[.slice (some ⟨q,0,none⟩) n c,.slice A 1 d] w K:=by
 obtain⟨b,o,rfl,hc⟩:=ha (by omega);have uB:w.heap[q]?=some (.cells ((Array.range c).map F) e (0,0)):=r
 have jM:=run_append_room (P:=Tryz.prog) w t ty e i ht hi q n c _ uB ⟨b,o,none⟩ 1 d [u] (by simp[h1]) (fun j v hv=>by
  have hj:j=0:=by
   have:=(List.getElem?_eq_some_iff.1 hv).1;simpa using this
  subst hj;injection hv with hv;subst hv;rw[fW rfl];exact hc 0 (by omega)) (fun v hv=>by rw[List.mem_singleton.1 hv];exact hu) (by omega) (by simp[h1];omega)
 refine⟨_,w.setRow q (((Array.range c).map F).toList.take (n*i.size)++[u]++((Array.range c).map F).toList.drop (n*i.size+[u].length)).toArray,by simp only[builtin,Sem.run_bind,jM];rfl,k _ ?_ ⟨rfl,rfl,rfl,by simp,fun k _ hk=>setRow_other w q k _ (fun e=>hk (by rw[e];exact List.mem_singleton.2 rfl))⟩⟩;have h2:=setRow_heap w q _ (((Array.range c).map F).toList.take (n*i.size)++[u]++((Array.range c).map F).toList.drop (n*i.size+[u].length)).toArray e _ uB;unfold Row;rw[h2];congr 2;apply Array.ext_getElem?;intro j;rw[h1,Nat.mul_one];by_cases hj:j<c
 ·rw[List.getElem?_toArray];unfold put;by_cases hjn:j<n
  ·rw[List.append_assoc,List.getElem?_append_left (by simp;omega),List.getElem?_take,if_pos hjn];simp[hj,show j≠n by omega]
  ·by_cases hje:j=n
   ·subst hje;rw[List.append_assoc,List.getElem?_append_right (by simp;omega)];simp[hj,Nat.min_eq_left (Nat.le_of_lt hj)]
   ·rw[List.getElem?_append_right (by simp;omega)];simp only[List.length_append,List.length_take,Array.length_toList,Array.size_map,Array.size_range,List.length_singleton,Nat.min_eq_left (Nat.le_of_lt hn),List.getElem?_drop];rw[show n+1+(j-(n+1))=j by omega];simp[hj,hje]
 ·rw[Array.getElem?_eq_none (by simp;omega),Array.getElem?_eq_none (by simp;omega)]
structure BW(w:World)(g x n c:Nat)(f:Nat->Int):Prop where
 row:Row w g 196 1 (fun _=>.slice (some ⟨x,0,none⟩) n c)
 cells:Row w x 5 c (fun j=>.int .u8 (if j<n then f j else 0))
theorem BW.ab{w w':World}{g x n c:Nat}{f:Nat->Int}{S:List Nat}(h:BW w g x n c f)(k:Aa S w w')(hg:g∉S)(hX:x∉S):BW w' g x n c f:=⟨h.row.ab k hg,h.cells.ab k hX⟩
def CL(w:World)(g x m c:Nat)(f:Nat->Int)(v:Value)(w':World):Prop:=v=.tuple #[]/\BW w' g x m c f/\Aa [g,x] w w'
theorem Sh.aqV{v:Int}{i:Nat}{K:Value->Prop}(hi:i<=8)(k:K (.int .i64 (v/256^i))):Sh .shr .i64 v (8*(i:Int)) K:=by
 refine⟨by omega,?_⟩;have e:min (8*(i:Int)).toNat IntKind.i64.bits=8*i:=by simp[IntKind.bits];omega
 have e2:v.fdiv (2^(8*i))=v/256^i:=by
  rw[Int.fdiv_eq_ediv_of_nonneg _ (Int.le_of_lt (Int.pow_pos (by decide))),Int.pow_mul];rfl
 simp only[e,e2];exact k
theorem c1{i:Nat}(h:i<1):i=0:=by omega
theorem nz(w:World)(g x n c:Nat)(f:Nat->Int)(h:BW w g x n c f)(v:Int)(m:Nat)(hv:0<=v/\v<=9223372036854775807)(hm:m<=5)(hn:n+m<=c)(hb:∀j,j<m->byteOf v j=f (n+j)) :
  Spec Tryz.prog 113 #[.pointer (some ⟨g,0,none⟩),.int .i64 v,.int .i64 m] w (CL w g x (n+m) c f):=by
 obtain⟨i0,hi,lZ,lR,l4⟩:=info_parts dR;refine spec_of_wpE (T:=tt) ai func113 rfl (by decide +kernel) ntmps113 (by simp) ?_;conv=>whnf
 refine CW.loop (ι:=Nat) (fun i w'=>i<=m/\BW w' g x (n+i) c f/\Aa [g,x] w w') (fun i=>[(0,.pointer (some ⟨g,0,none⟩)),(1,.int .i64 v),(7,.int .i64 m),(8,.int .i64 i)]) (fun i=>m-i) 0 ai ⟨by simp,h,Aa.refl _ _⟩ ⟨rfl,rfl,rfl,rfl,trivial⟩ ?_;rintro i wr ⟨hi2,hw,kr⟩;by_cases av:i<m
 ·have hfi:=hb i av;conv=>whnf
  repeat ((first|refine Br.y ?_|refine CW.s ?_);conv=>whnf)
  refine CW.held (fun _=>True) [] (.take 0 (.take 1 (.take 2 (.take 3 (.take 5 (.take 6 (.take 7 (.take 8 (.take 9 (.two 4 (.one 10 (.one 11 (.take 12 (.take 13 (.one 14 (.done)))))) 10 (.one 4 (.one 11 (.take 12 (.take 13 (.one 14 (.done)))))))))))))))) ai (by kernel_rfl) (by kernel_rfl) (by kernel_rfl) trivial ?_;have k1:=kr.drewN 1;have hw1:BW (wr.drewN 1) g x (n+i) c f:=hw.ab ((Aa.refl [] _).drewN 1) (by simp) (by simp);generalize wr.drewN 1=w1 at *;have ha:Rd (w1.alloc (.cells #[.int .u8 (v/256^i%256)] 5)) (some ⟨w1.heap.size,0,none⟩) 1 (fun _=>.int .u8 (f (n+i))):=(ab5 (heap_alloc_new _ _)).congr (fun _ _=>vi hfi);have ka:Aa [] w1 (w1.alloc (.cells #[.int .u8 (v/256^i%256)] 5)):=(Aa.refl _ _).alloc _;have hw2:=hw1.ab ka (by simp) (by simp);conv=>whnf
  repeat' ((first|(refine And.intro ?_ ?_)|(refine Ld.row hw1.row (by decide) ?_)|(refine Ld.row hw2.row (by decide) ?_)|(refine Sh.aqV (by omega) ?_)|(refine Ar.u8m ?_)|(refine Ru.of (aaB _ _) ?_)|refine HS.t ?_|refine Ar.la ?_)<;>conv=>whnf)
  all_goals
   generalize w1.alloc _=w2 at *;show Bu _ _ _ _ _ #[.slice (some ⟨x,0,none⟩) (n+i) c,_] _ _;refine Bu.ao9 underlying37 hi lR hw2.cells (by omega) ha rfl ?_;intro w3 r3 k3;have hgx:g≠x:=hw2.row.ed hw2.cells (by decide);have r3':=hw2.row.ab k3 (by simpa using hgx);conv=>whnf
   repeat (refine HS.t ?_;conv=>whnf)
   refine Sd.rowAt r3' 0 (by omega) (by omega) rfl ?_;intro w4 r4 k4;have hz4:=r3.ab k4 (by simpa using hgx.symm);conv=>whnf
   repeat ((first|refine HS.t ?_|refine Ar.la ?_);conv=>whnf)
   refine⟨i+1,⟨av,⟨r4.congr (fun j hj=>by rw[c1 hj];rfl),hz4.congr (fun j hj=>?_)⟩,?_⟩,⟨rfl,rfl,rfl,vi (by omega),trivial⟩,by simp only;omega⟩
   ·unfold put;simp only;by_cases kL:j=n+i
    ·rw[if_pos kL,if_pos (by omega),kL]
    ·rw[if_neg kL];by_cases hj3:j<n+i
     ·rw[if_pos hj3,if_pos (by omega)]
     ·rw[if_neg hj3,if_neg (by omega)]
   ·exact((k1.trans (ka.mono (by simp))).trans (k3.mono (by simp))).trans (k4.mono (by simp))
 ·obtain rfl:i=m:=by omega
  conv=>whnf
  repeat ((first|refine Br.n ?_|refine CW.s ?_);conv=>whnf)
  exact⟨rfl,rfl,hw,kr⟩
theorem Cp.ah8(c:Cp):c.cell 37=.int .i64 c.cur:=rfl
theorem Cp.nA(c:Cp){j:Nat}(h:j<12):c.cell (38+j)=.int .i64 (c.reads j):=by
 unfold Cp.cell;rw[if_neg (by omega),if_neg (by omega),if_neg (by omega),if_neg (by omega),if_pos (by omega),show 38+j-38=j by omega]
theorem Cp.nB(c:Cp){j:Nat}(h:j<12):c.cell (50+j)=.int .i64 (c.ic j):=by
 unfold Cp.cell;rw[if_neg (by omega),if_neg (by omega),if_neg (by omega),if_neg (by omega),if_neg (by omega),show 50+j-50=j by omega]
theorem uC:(Tryz.prog.info? 70).map (·.size)=some 12:=by kernel_rfl
theorem ak5(w:World)(p:Cp)(hp:p.told):Spec Tryz.prog 112 #[agg 62 p.cell] w fun v w'=>v=.bool true/\Aa [] w w':=by
 obtain⟨h1,h2,h3,h4,h5⟩:=hp;refine spec_of_wpE (T:=tt) ai func112 rfl (by decide +kernel) ntmps112 (by simp) ?_;conv=>whnf
 refine Ru.dr ?_;intro g w1 hg dj r k1;conv=>whnf
 repeat ((refine Ld.rowAt r 24 (by omega) (by omega) ?_);conv=>whnf)
 refine Ca.of (iY w1 h1) ?_;rintro _ _ ⟨rfl,rfl⟩;conv=>whnf
 repeat ((first|(refine Ld.rowAt r 37 (by omega) (by omega) ?_)|refine Br.t ?_);conv=>whnf)
 refine Ca.of (iY w1 h2) ?_;rintro _ _ ⟨rfl,rfl⟩;conv=>whnf
 repeat ((first|refine Pk.t ?_|refine CW.s ?_);conv=>whnf)
 refine Ru.cx (q:=fun j=>.int .i64 (p.fl j)) r underlying114 rfl gm (by omega) (fun j hj=>by rw[show 0+0+j=j from by omega];exact p.iy hj) ?_;conv=>whnf
 refine CW.loop (ι:=Nat) (fun i w'=>i<=24/\w'=w1) (fun i=>[(1,.pointer (some ⟨g,0,none⟩)),(3,.bool true),(16,agg 24 (fun j=>.int .i64 (p.fl j))),(17,.int .i64 i)]) (fun i=>24-i) 0 ai ⟨by omega,rfl⟩ ⟨rfl,rfl,rfl,rfl,trivial⟩ ?_;rintro k w' ⟨hk,rfl⟩;by_cases av:k<24
 ·have sr:=h3 k av;conv=>whnf
  repeat ((first|(refine Ru.idx underlying114 av uu ?_)|refine Br.t ?_|refine Br.y ?_|refine CW.s ?_);conv=>whnf)
  refine Ca.of (iY w' sr) ?_;rintro _ _ ⟨rfl,rfl⟩;conv=>whnf
  repeat ((first|refine Pk.t ?_|refine Ar.la ?_);conv=>whnf)
  exact⟨k+1,⟨av,rfl⟩,⟨rfl,rfl,rfl,rfl,trivial⟩,by simp only;omega⟩
 ·obtain rfl:k=24:=by omega
  conv=>whnf
  repeat ((first|refine Br.f ?_|refine CW.s ?_);conv=>whnf)
  refine CW.loop (ι:=Nat) (fun i w2=>i<=12/\w2=w') (fun i=>[(1,.pointer (some ⟨g,0,none⟩)),(3,.bool true),(26,.int .i64 i)]) (fun i=>12-i) 0 ai ⟨by omega,rfl⟩ ⟨rfl,rfl,rfl,trivial⟩ ?_;rintro k w2 ⟨hk,rfl⟩;by_cases av:k<12
  ·conv=>whnf
   repeat ((first|(refine Ld.rowAt r (38+k) (by omega) (by omega) ?_)|refine Br.t ?_|refine Ix.n ?_|refine Br.y ?_|refine CW.s ?_);conv=>whnf)
   rw[p.nA av];refine Ca.of (iY w2 (h4 k av)) ?_;rintro _ _ ⟨rfl,rfl⟩;conv=>whnf
   repeat ((first|(refine Ld.rowAt r (50+k) (by omega) (by omega) ?_)|refine Br.t ?_|refine Pk.t ?_|refine Ix.n ?_);conv=>whnf)
   rw[p.nB av];refine Ca.of (iY w2 (h5 k av)) ?_;rintro _ _ ⟨rfl,rfl⟩;conv=>whnf
   repeat ((first|refine Pk.t ?_|refine Ar.la ?_);conv=>whnf)
   exact⟨k+1,⟨av,rfl⟩,⟨rfl,rfl,rfl,trivial⟩,by simp only;omega⟩
  ·obtain rfl:k=12:=by omega
   conv=>whnf
   repeat ((first|refine Br.f ?_|refine CW.s ?_);conv=>whnf)
   exact⟨rfl,rfl,k1⟩
theorem Cp.bj(c:Cp)(j:Nat):(c.cell j).oneCell'=true:=by
 unfold Cp.cell;split
 ·rfl
 ·split
  ·rfl
  ·split
   ·rfl
   ·split
    ·rfl
    ·split<;>rfl
theorem afF(w:World):(Instr.makeSlice 37 (.int .i64 0) (.int .i64 174)).run Tryz.prog w=.ok (.slice (some ⟨w.heap.size,0,none⟩) 0 174) (w.alloc (.cells (madeCells #[.int .u8 0] 174) 5)):=by kernel_rfl
theorem aec(v:Value):Value.agg #[v]=agg 1 (fun _=>v):=by
 unfold agg;simp[Array.range,Array.ofFn_succ]
theorem afG(A:Option Addr)(n c:Nat)(w:World):(Instr.build 196 #[(0,.slice A n c)]).run Tryz.prog w=.ok (.agg #[.slice A n c]) w:=by kernel_rfl
theorem bu:(Tryz.prog.info? 116).map (·.size)=some 62:=by kernel_rfl
theorem ah9(p:Cp){k j:Nat}(hk:k<24)(hj:j<5):byteOf (p.fl k) j=l9 p (5*k+j):=by
 unfold l9;rw[if_pos (by omega),show(5*k+j)/5=k by omega,show(5*k+j)%5=j by omega]
theorem abb(p:Cp){j:Nat}(hj:j<5):byteOf p.next j=l9 p (120+j):=by
 unfold l9;rw[if_neg (by omega),if_pos (by omega),show 120+j-120=j by omega]
theorem aed(p:Cp){j:Nat}(hj:j<2):byteOf (ao8 p:Nat) j=l9 p (125+j):=by
 unfold l9;rw[if_neg (by omega),if_neg (by omega),if_pos (by omega),show 125+j-125=j by omega]
theorem aee(p:Cp){j:Nat}(hj:j<1):byteOf p.cur j=l9 p (127+j):=by
 obtain rfl:j=0:=by omega
 rfl
theorem aia(p:Cp){k j:Nat}(hk:k<12)(hj:j<2):byteOf (p.reads k) j=l9 p (128+2*k+j):=by
 unfold l9;rw[if_neg (by omega),if_neg (by omega),if_neg (by omega),if_neg (by omega),if_pos (by omega),show(128+2*k+j-128)/2=k by omega,show(128+2*k+j-128)%2=j by omega]
theorem aib(p:Cp){k j:Nat}(hk:k<12)(hj:j<1):byteOf (p.ic k) j=l9 p (152+k+j):=by
 obtain rfl:j=0:=by omega
 unfold l9;rw[if_neg (by omega),if_neg (by omega),if_neg (by omega),if_neg (by omega),if_neg (by omega),if_pos (by omega),show 152+k+0-152=k by omega]
theorem uD(p:Cp){k:Nat}:gU p (k+1)=gU p k+(if p.bad k then 2^k else 0):=rfl
theorem aef{a b:Nat}(ha:a<2^63)(hb:b<2^63):fV .or .i64 (a:Int) (b:Int)=((a ||| b:Nat):Int):=by
 show IntKind.i64.wrap (((BitVec.ofInt 64 (a:Int) ||| BitVec.ofInt 64 (b:Int)).toNat:Nat):Int)=_;rw[BitVec.toNat_or,ae3 ha,ae3 hb,sD (Nat.or_lt_two_pow ha hb)]
theorem anq{a k:Nat}(h:a<2^k):a ||| 2^k=a+2^k:=by
 have:=Nat.two_pow_add_eq_or_of_lt h 1;rw[Nat.mul_one] at this;rw[Nat.or_comm, <-this,Nat.add_comm]
theorem iK(w:World)(p:Cp)(hp:p.told):Spec Tryz.prog 66 #[agg 62 p.cell] w fun v w'=>∃x,w.heap.size<=x/\v=.tuple #[.slice (some ⟨x,0,none⟩) 174 174,al 0]/\Row w' x 5 174 (fun j=>.int .u8 (l9 p j))/\Aa [] w w':=by
 obtain⟨h1,h2,h3,h4,h5⟩:=hp;refine spec_of_wpE (T:=tt) ai func66 rfl (by decide +kernel) ntmps66 (by simp) ?_;conv=>whnf
 refine Ru.dr ?_;intro g w1 hg dj r k1;conv=>whnf
 repeat (refine CW.s ?_;conv=>whnf)
 refine Ru.vR r underlying116 rfl bu (by omega) ?_;rw[br (fun j _=>by rw[Nat.zero_add]:∀j,j<62->p.cell (0+j)=p.cell j)];conv=>whnf
 refine Ca.of (ak5 w1 p ⟨h1,h2,h3,h4,h5⟩) ?_;rintro _ w2 ⟨rfl,k2⟩;have r2:=r.ab k2 (by simp);conv=>whnf
 repeat (refine Br.f ?_;conv=>whnf)
 refine Ru.of (afF w2) ?_;have rx:=Row.made w2 5 (.int .u8 0) 174;have k3:Aa [] w2 (w2.alloc (.cells (madeCells #[.int .u8 0] 174) 5)):=(Aa.refl _ _).alloc _;have hx:w.heap.size<=w2.heap.size:=by
  have:=k1.size;have:=k2.size;omega
 have gg:(w2.alloc (.cells (madeCells #[.int .u8 0] 174) 5)).heap.size=w2.heap.size+1:=by simp
 have hrg:=r2.lt;generalize w2.heap.size=x at *;generalize w2.alloc _=w3 at *;have r3:=r2.ab k3 (by simp);conv=>whnf
 refine Ru.of (afG _ _ _ _) ?_;conv=>whnf
 rw[aec];refine Ru.dr ?_;intro y w4 hy qB ry k4;have r4:=r3.ab k4 (by simp);have W4:BW w4 y x 0 174 (l9 p):=⟨ry,(rx.ab k4 (by simp)).congr (fun j _=>by rw[if_neg (by omega)])⟩;have kk:Aa [] w w4:=((k1.trans k2).trans k3).trans k4;have gy:g≠y:=by omega
 have gx:g≠x:=by omega
 have yw:w.heap.size<=y:=by omega
 clear rx ry r r2 r3 k1 k2 k3 k4 dj gg qB hrg hg hy w1 w2 w3;conv=>whnf
 repeat (refine CW.s ?_;conv=>whnf)
 refine Ru.cx (q:=fun j=>.int .i64 (p.fl j)) r4 underlying114 rfl gm (by omega) (fun j hj=>by rw[show 0+0+j=j from by omega];exact p.iy hj) ?_;conv=>whnf
 have put:∀ {wr wr':World},Aa [] w wr->Aa [y,x] wr wr'->Aa [] w wr':=fun h k=>h.then k (fun z hz=>by
  simp only[List.mem_cons,List.not_mem_nil,or_false] at hz;rcases hz with rfl|rfl<;>exact .inr (by assumption))
 refine CW.loop (ι:=Nat) (fun i wr=>i<=24/\BW wr y x (5*i) 174 (l9 p)/\Row wr g 116 62 p.cell/\Aa [] w wr) (fun i=>[(1,.pointer (some ⟨g,0,none⟩)),(4,.pointer (some ⟨y,0,none⟩)),(22,agg 24 (fun j=>.int .i64 (p.fl j))),(23,.int .i64 i)]) (fun i=>24-i) 0 ai ⟨by omega,W4,r4,kk⟩ ⟨rfl,rfl,rfl,rfl,trivial⟩ ?_;clear W4 r4 kk w4;rintro k wr ⟨hk,W,r,kk⟩;by_cases av:k<24
 ·have sr:=h3 k av;conv=>whnf
  repeat ((first|(refine Ru.idx underlying114 av uu ?_)|refine Br.y ?_|refine CW.s ?_);conv=>whnf)
  refine Ca.of (nz wr y x (5*k) 174 (l9 p) W (p.fl k) 5 (by omega) (by omega) (by omega) (fun j hj=>ah9 p av hj)) ?_;rintro _ w2 ⟨rfl,W2,k2⟩;conv=>whnf
  repeat (refine Ar.la ?_;conv=>whnf)
  exact⟨k+1,⟨av,W2,r.ab k2 (by simp[gy,gx]),put kk k2⟩,⟨rfl,rfl,rfl,rfl,trivial⟩,by simp only;omega⟩
 obtain rfl:k=24:=by omega
 clear av hk;conv=>whnf
 repeat ((first|(refine Ld.rowAt r 24 (by omega) (by omega) ?_)|refine Br.f ?_|refine CW.s ?_);conv=>whnf)
 refine Ca.of (nz wr y x (5*24) 174 (l9 p) W p.next 5 (by omega) (by omega) (by omega) (fun j hj=>abb p hj)) ?_;rintro _ w2 ⟨rfl,W2,k2⟩;have r2:=r.ab k2 (by simp[gy,gx]);have dh:=put kk k2;clear W r kk k2 wr;conv=>whnf
 repeat (refine CW.s ?_;conv=>whnf)
 refine Ru.cx (q:=fun j=>.bool (p.bad j)) r2 underlying63 rfl (by kernel_rfl:(Tryz.prog.info? 63).map (·.size)=some 12) (by omega) (fun j hj=>by rw[show 0+25+j=25+j from by omega];exact p.jZ hj) ?_;conv=>whnf
 refine CW.loop (ι:=Nat) (fun i w'=>i<=12/\w'=w2) (fun i=>[(1,.pointer (some ⟨g,0,none⟩)),(4,.pointer (some ⟨y,0,none⟩)),(7,.int .i64 (gU p i:Nat)),(35,agg 12 (fun j=>.bool (p.bad j))),(36,.int .i64 i)]) (fun i=>12-i) 0 ai ⟨by omega,rfl⟩ ⟨rfl,rfl,rfl,rfl,rfl,trivial⟩ ?_;rintro k wr ⟨hk,rfl⟩;by_cases av:k<12
 ·have hb:=mO p k;have bq:=uD p (k:=k);by_cases cN:p.bad k=true
  ·rw[if_pos cN] at bq;conv=>whnf
   repeat ((first|(refine Ru.idx underlying63 av (by kernel_rfl) ?_)|(refine Br.is cN ?_)|refine Br.y ?_|refine CW.s ?_);conv=>whnf)
   have hpw:(1 <<< k:Nat)=2^k:=by rw[Nat.shiftLeft_eq,Nat.one_mul]
   have ar6:2^k<=2^12:=Nat.pow_le_pow_right (by omega) (by omega);refine Sh.agJ (a:=1) (by rw[hpw];omega) (by omega) ?_;rw[hpw];conv=>whnf
   repeat (refine Ar.la ?_;conv=>whnf)
   rw[aef (by omega) (by omega)];exact⟨k+1,⟨av,rfl⟩,⟨rfl,rfl,vi (by rw[bq,anq hb]),rfl,rfl,trivial⟩,by simp only;omega⟩
  ·rw[if_neg cN] at bq;have apa:p.bad k=false:=by simpa using cN
   conv=>whnf
   repeat ((first|(refine Ru.idx underlying63 av (by kernel_rfl) ?_)|(refine Br.jB apa ?_)|refine Ar.la ?_|refine Br.y ?_|refine CW.s ?_);conv=>whnf)
   exact⟨k+1,⟨av,rfl⟩,⟨rfl,rfl,vi (by rw[bq];rfl),rfl,rfl,trivial⟩,by simp only;omega⟩
 obtain rfl:k=12:=by omega
 clear av hk;have eU:gU p 12<2^12:=mO p 12;conv=>whnf
 repeat ((first|refine Br.f ?_|refine CW.s ?_);conv=>whnf)
 refine Ca.of (nz wr y x 125 174 (l9 p) W2 (gU p 12:Nat) 2 (by omega) (by omega) (by omega) (fun j hj=>aed p hj)) ?_;rintro _ w3 ⟨rfl,W3,k3⟩;have r3:=r2.ab k3 (by simp[gy,gx]);have bG:=put dh k3;clear W2 r2 dh k3 wr;conv=>whnf
 repeat ((refine Ld.rowAt r3 37 (by omega) (by omega) ?_);conv=>whnf)
 refine Ca.of (nz w3 y x 127 174 (l9 p) W3 p.cur 1 (by omega) (by omega) (by omega) (fun j hj=>aee p hj)) ?_;rintro _ w4 ⟨rfl,W4,k4⟩;have r4:=r3.ab k4 (by simp[gy,gx]);have bU:=put bG k4;clear W3 r3 bG k4 w3;conv=>whnf
 repeat (refine CW.s ?_;conv=>whnf)
 refine Ru.cx (q:=fun j=>.int .i64 (p.reads j)) r4 underlying70 rfl uC (by omega) (fun j hj=>by rw[show 0+38+j=38+j from by omega];exact p.nA hj) ?_;conv=>whnf
 refine CW.loop (ι:=Nat) (fun i wr=>i<=12/\BW wr y x (128+2*i) 174 (l9 p)/\Row wr g 116 62 p.cell/\Aa [] w wr) (fun i=>[(1,.pointer (some ⟨g,0,none⟩)),(4,.pointer (some ⟨y,0,none⟩)),(54,agg 12 (fun j=>.int .i64 (p.reads j))),(55,.int .i64 i)]) (fun i=>12-i) 0 ai ⟨by omega,W4,r4,bU⟩ ⟨rfl,rfl,rfl,rfl,trivial⟩ ?_;clear W4 r4 bU w4;rintro k wr ⟨hk,W,r,kk⟩;by_cases av:k<12
 ·have sr:=h4 k av;conv=>whnf
  repeat ((first|(refine Ru.idx underlying70 av (by kernel_rfl) ?_)|refine Br.y ?_|refine CW.s ?_);conv=>whnf)
  refine Ca.of (nz wr y x (128+2*k) 174 (l9 p) W (p.reads k) 2 (by omega) (by omega) (by omega) (fun j hj=>aia p av hj)) ?_;rintro _ w2 ⟨rfl,W2,k2⟩;conv=>whnf
  repeat (refine Ar.la ?_;conv=>whnf)
  exact⟨k+1,⟨av,W2,r.ab k2 (by simp[gy,gx]),put kk k2⟩,⟨rfl,rfl,rfl,rfl,trivial⟩,by simp only;omega⟩
 obtain rfl:k=12:=by omega
 clear av hk;conv=>whnf
 repeat ((first|refine Br.f ?_|refine CW.s ?_);conv=>whnf)
 refine Ru.cx (q:=fun j=>.int .i64 (p.ic j)) r underlying70 rfl uC (by omega) (fun j hj=>by rw[show 0+50+j=50+j from by omega];exact p.nB hj) ?_;conv=>whnf
 refine CW.loop (ι:=Nat) (fun i wr=>i<=12/\BW wr y x (152+i) 174 (l9 p)/\Aa [] w wr) (fun i=>[(4,.pointer (some ⟨y,0,none⟩)),(63,agg 12 (fun j=>.int .i64 (p.ic j))),(64,.int .i64 i)]) (fun i=>12-i) 0 ai ⟨by omega,W,kk⟩ ⟨rfl,rfl,rfl,trivial⟩ ?_;clear W r kk wr;rintro k wr ⟨hk,W,kk⟩;by_cases av:k<12
 ·have sr:=h5 k av;conv=>whnf
  repeat ((first|(refine Ru.idx underlying70 av (by kernel_rfl) ?_)|refine Br.y ?_|refine CW.s ?_);conv=>whnf)
  refine Ca.of (nz wr y x (152+k) 174 (l9 p) W (p.ic k) 1 (by omega) (by omega) (by omega) (fun j hj=>aib p av hj)) ?_;rintro _ w2 ⟨rfl,W2,k2⟩;conv=>whnf
  repeat (refine Ar.la ?_;conv=>whnf)
  exact⟨k+1,⟨av,W2,put kk k2⟩,⟨rfl,rfl,rfl,trivial⟩,by simp only;omega⟩
 obtain rfl:k=12:=by omega
 clear av hk;conv=>whnf
 repeat ((first|(refine Ld.row W.row (by omega) ?_)|refine Br.f ?_|refine CW.s ?_);conv=>whnf)
 refine Ru.ae6 underlying37 tL (h:=174) (by omega) ?_;conv=>whnf
 refine⟨rfl,x,hx,rfl,W.cells.congr (fun j hj=>?_),kk⟩;by_cases h:j<152+12
 ·rw[if_pos h]
 ·rw[if_neg h];refine vi ?_;unfold l9;rw[if_neg (by omega),if_neg (by omega),if_neg (by omega),if_neg (by omega),if_neg (by omega),if_neg (by omega)]
theorem aic(v i:Nat):(v%256^i) ||| ((v/256^i%256) <<< (8*i))=v%256^(i+1):=by
 have e:256^i=2^(8*i):=by rw[Nat.pow_mul]
 have h:=Nat.two_pow_add_eq_or_of_lt (i:=8*i) (b:=v%256^i) (by rw[<-e];exact Nat.mod_lt _ (Nat.pow_pos (by decide))) (v/256^i%256);rw[Nat.shiftLeft_eq,Nat.or_comm,Nat.mul_comm, <-h, <-e,Nat.pow_succ,Nat.mod_mul,Nat.add_comm]
structure CX(w:World)(g x o n c:Nat)(F:Nat->Int):Prop where
 row:Row w g 259 1 (fun _=>.slice (some ⟨x,o,none⟩) n c)
 cells:∀j,j<n->w.cell? ⟨x,o+j,none⟩=some (.int .u8 (F j))
theorem nC(w:World)(g x o n c:Nat)(F:Nat->Int)(h:CX w g x o n c F)(v m:Nat)(hm:m<=5)(hv:v<256^m)(hn:m<n)(hc:n<=c)(hx:x≠g)(hb:∀j,j<m->F j=byteOf v j) :
  Spec Tryz.prog 174 #[.pointer (some ⟨g,0,none⟩),.int .i64 m] w fun u w'=>u=.int .i64 v/\CX w' g x (o+m) (n-m) (c-m) (fun j=>F (m+j))/\Aa [g] w w':=by
 refine spec_of_wpE (T:=tt) ai func174 rfl (by decide +kernel) ntmps174 (by simp) ?_;conv=>whnf
 repeat ((first|(refine Ld.row h.row (by omega) ?_)|refine CW.s ?_);conv=>whnf)
 refine Ru.ae6 underlying37 tL (h:=m) (by omega) ?_;conv=>whnf
 refine CW.loop (ι:=Nat) (fun i w'=>i<=m/\w'=w) (fun i=>[(0,.pointer (some ⟨g,0,none⟩)),(1,.int .i64 m),(5,.int .i64 (v%256^i:Nat)),(13,.slice (some ⟨x,o,none⟩) m c),(14,.int .i64 m),(15,.int .i64 i)]) (fun i=>m-i) 0 ai ⟨by omega,rfl⟩ ⟨rfl,rfl,vi (by simp[Nat.mod_one]),rfl,rfl,rfl,trivial⟩ ?_;rintro i wr ⟨hi,rfl⟩;by_cases av:i<m
 ·have hci:=h.cells i (by omega);rw[hb i av] at hci;have hbo:byteOf (v:Int) i=((v/256^i%256:Nat):Int):=by
   unfold byteOf
   push_cast
   rfl
  rw[hbo] at hci;conv=>whnf
  repeat ((first|(refine Ld.of hci ?_)|refine Ix.n ?_|refine Ar.la ?_|refine Br.y ?_|refine CW.s ?_);conv=>whnf)
  have hp4:256^i<=256^4:=Nat.pow_le_pow_right (by omega) (by omega);have e4:(256:Nat)^4=4294967296:=by decide
  have h1:v/256^i%256<256:=Nat.mod_lt _ (by omega);have h2:v%256^i<256^i:=Nat.mod_lt _ (Nat.pow_pos (by decide));have h3:(v/256^i%256) <<< (8*i)<2^63:=by
   rw[Nat.shiftLeft_eq,Nat.pow_mul];have:(v/256^i%256)*(2^8)^i<=255*4294967296:=Nat.mul_le_mul (by omega) (by rw[<-e4];exact hp4);omega
  rw[show(8*(i:Int))=((8*i:Nat):Int) by push_cast;rfl];refine Sh.agJ h3 (by omega) ?_;conv=>whnf
  repeat (refine Ar.la ?_;conv=>whnf)
  rw[aef (by omega) h3,aic];exact⟨i+1,⟨av,rfl⟩,⟨rfl,rfl,rfl,rfl,rfl,rfl,trivial⟩,by simp only;omega⟩
 ·obtain rfl:i=m:=by omega
  conv=>whnf
  repeat ((first|(refine Ld.row h.row (by omega) ?_)|refine Br.n ?_|refine CW.s ?_);conv=>whnf)
  refine Ru.amE underlying37 tL (l:=i) (by omega) hc (by omega) ?_;conv=>whnf
  refine Sd.rowAt h.row 0 (by omega) (by omega) rfl ?_;intro w2 r2 k2;conv=>whnf
  refine⟨rfl,vi (by rw[Nat.mod_eq_of_lt hv]),⟨r2.congr (fun j hj=>by rw[c1 hj];rfl),fun j hj=>?_⟩,k2⟩;have hci:=h.cells (i+j) (by omega);rw[show o+i+j=o+(i+j) by omega,k2.cell (aZ hci) (by simpa using hx)];exact hci
def Cp.zero:Cp:=⟨fun _=>0,0,fun _=>false,0,fun _=>0,fun _=>0⟩
def aid(j:Nat):Nat:=cond (Nat.blt j 25) 2 (cond (Nat.blt j 37) 1 2)
theorem ak6:wm aid 62 (zcl 116).toList 0=true:=by kernel_rfl
theorem zcp:zcl 116=(Array.range 62).map Cp.zero.cell:=by
 rw[mz ak6];apply Array.ext
 ·simp
 ·intro i h1 h2;simp only[Array.getElem_map,Array.getElem_range];unfold aid;rw[dz (iw _ _),dz (iw _ _)];unfold Cp.cell Cp.zero;by_cases h3:i<25
  ·rw[if_pos h3];by_cases h4:i<24
   ·rw[if_pos h4];rfl
   ·rw[if_neg h4,if_pos (by omega)];rfl
  ·rw[if_neg h3,if_neg (show ¬i<24 by omega),if_neg (show ¬i=24 by omega)];by_cases h5:i<37
   ·rw[if_pos h5,if_pos h5];rfl
   ·rw[if_neg h5,if_neg h5];simp only[ite_self];rfl
theorem afH(w:World):(Instr.alloc 116 true (.tuple #[])).run Tryz.prog w=.ok (.pointer (some ⟨w.heap.size,0,none⟩)) (w.alloc (.cells (zcl 116) 116)):=by kernel_rfl
theorem eD(w:World):(Instr.alloc 116 true (.tuple #[])).run Tryz.prog w=.ok (.pointer (some ⟨w.heap.size,0,none⟩)) (w.alloc (eS 62 Cp.zero.cell 116)):=by
 rw[afH,zcp];rfl
theorem afI(A:Option Addr)(n c:Nat)(w:World):(Instr.build 259 #[(0,.slice A n c)]).run Tryz.prog w=.ok (.agg #[.slice A n c]) w:=by kernel_rfl
theorem xH(p:Cp)(i:Nat):∀k,i<k->gU p k/2^i%2=if p.bad i then 1 else 0
 |0,h=>absurd h (by omega)
 | k+1,h=>by
  rw[uD];by_cases hi:i=k
  ·subst hi;have hb:=mO p i;have hp:0<2^i:=Nat.pow_pos (by decide);by_cases cN:p.bad i=true
   ·rw[if_pos cN,if_pos cN,Nat.add_div_right _ hp,Nat.div_eq_of_lt hb]
   ·rw[if_neg cN,if_neg cN,Nat.add_zero,Nat.div_eq_of_lt hb]
  ·have ih:=xH p i k (by omega);by_cases cN:p.bad k=true
   ·rw[if_pos cN];have e:2^k=2^i*(2*2^(k-i-1)):=by
     rw[<-Nat.mul_assoc, <-Nat.pow_succ, <-Nat.pow_add];congr 1;omega
    rw[e,Nat.add_mul_div_left _ _ (Nat.pow_pos (by decide)),Nat.add_mul_mod_self_left,ih]
   ·rw[if_neg cN,Nat.add_zero,ih]
def cz(p:Cp)(n j:Nat):Value:=if j<n then p.cell j else Cp.zero.cell j
theorem anr(p:Cp)(n j:Nat):put (cz p n) n (p.cell n) j=cz p (n+1) j:=by
 unfold put cz;by_cases h:j=n
 ·rw[if_pos h,if_pos (by omega),h]
 ·rw[if_neg h];by_cases h2:j<n
  ·rw[if_pos h2,if_pos (by omega)]
  ·rw[if_neg h2,if_neg (by omega)]
theorem Sh.apb{a n:Nat}{K:Value->Prop}(hn:n<=64)(k:K (.int .i64 ((a/2^n:Nat):Int))):Sh .shr .i64 (a:Int) (n:Int) K:=by
 refine⟨by omega,?_⟩;have e:min ((n:Int)).toNat IntKind.i64.bits=n:=by simp[IntKind.bits];omega
 have e2:(a:Int).fdiv (2^n)=((a/2^n:Nat):Int):=by
  rw[Int.fdiv_eq_ediv_of_nonneg _ (Int.le_of_lt (Int.pow_pos (by decide)))]
  push_cast
  rfl
 simp only[e,e2];exact k
structure BH(w wr:World)(y x g4 g2 o c:Nat)(p:Cp)(a n:Nat):Prop where
 rd:CX wr y x (o+a) (174-a) (c-a) (fun j=>l9 p (a+j))
 sw:Row wr g4 116 62 (cz p n)
 ak7:Row wr g2 116 62 Cp.zero.cell
 kk:Aa [] w wr
structure Dl(w:World)(y x g4 g2:Nat):Prop where
 yx:x≠y
 y4:y≠g4
 y2:y≠g2
 g42:g4≠g2
 x4:x≠g4
 yw:w.heap.size<=y
 gw:w.heap.size<=g4
theorem Aa.fresh{w wr wr':World}{z:Nat}(h:Aa [] w wr)(hz:w.heap.size<=z)(k:Aa [z] wr wr'):Aa [] w wr':=h.then k (fun u hu=>by rw[List.mem_singleton.1 hu];exact .inr hz)
theorem BH.aaI{w wr w2:World}{y x g4 g2 o c:Nat}{p:Cp}{a n m:Nat}(q:Dl w y x g4 g2)(h:BH w wr y x g4 g2 o c p a n)(R:CX w2 y x (o+a+m) (174-a-m) (c-a-m) (fun j=>l9 p (a+(m+j))))(k:Aa [y] wr w2):BH w w2 y x g4 g2 o c p (a+m) n :=
 ⟨by
  rw[<-Nat.add_assoc, <-Nat.sub_sub, <-Nat.sub_sub];exact⟨R.row,fun j hj=>by rw[R.cells j hj,Nat.add_assoc]⟩,h.sw.ab k (by simpa using q.y4.symm),h.ak7.ab k (by simpa using q.y2.symm),h.kk.fresh q.yw k⟩
theorem BH.laid{w wr w2:World}{y x g4 g2 o c:Nat}{p:Cp}{a n:Nat}{v:Value}(q:Dl w y x g4 g2)(h:BH w wr y x g4 g2 o c p a n)(r:Row w2 g4 116 62 (put (cz p n) n v))(e:v=p.cell n)(k:Aa [g4] wr w2):BH w w2 y x g4 g2 o c p a (n+1) :=
 ⟨⟨h.rd.row.ab k (by simpa using q.y4),fun j hj=>by rw[k.cell (aZ (h.rd.cells j hj)) (by simpa using q.x4)];exact h.rd.cells j hj⟩,r.congr (fun j _=>by rw[e];exact anr p n j),h.ak7.ab k (by simpa using q.g42.symm),h.kk.fresh q.gw k⟩
theorem uF{v b:Int}(h:0<=v/\v<=b):∃n:Nat,v=n/\(n:Int)<=b:=⟨v.toNat,by omega,by omega⟩
theorem ak8(p:Cp){j:Nat}(h:164<=j):l9 p j=0:=by
 unfold l9;rw[if_neg (by omega),if_neg (by omega),if_neg (by omega),if_neg (by omega),if_neg (by omega),if_neg (by omega)]
theorem aie(w:World)(x o c:Nat)(p:Cp)(hp:p.told)(hc:174<=c)(bM:∀j,j<174->w.cell? ⟨x,o+j,none⟩=some (.int .u8 (l9 p j))) :
  Spec Tryz.prog 122 #[.slice (some ⟨x,o,none⟩) 174 c] w fun v w'=>v=.tuple #[agg 62 p.cell,al 0]/\Aa [] w w':=by
 have hxw:x<w.heap.size:=aZ (bM 0 (by omega));refine spec_of_wpE (T:=tt) ai func122 rfl (by decide +kernel) ntmps122 (by simp) ?_;conv=>whnf
 refine Ru.aE (eD w) ?_;intro g2 w1 hg2 dj r2 k1;conv=>whnf
 refine Ru.aE (eD w1) ?_;intro g4 w2 hg4 gO r4 k2;conv=>whnf
 repeat ((first|refine Br.f ?_|refine CW.s ?_);conv=>whnf)
 refine Ru.of (afI _ _ _ _) ?_;conv=>whnf
 rw[aec];refine Ru.dr ?_;intro y w3 hy gg ry k3;have hxc:∀j,j<174->w3.cell? ⟨x,o+j,none⟩=some (.int .u8 (l9 p j)):=fun j hj=>by
  rw[((k1.trans k2).trans k3).cell hxw (by simp)];exact bM j hj
 have R3:CX w3 y x o 174 c (fun j=>l9 p (0+j)):=⟨ry,fun j hj=>by rw[Nat.zero_add];exact hxc j hj⟩;have r22:=(r2.ab k2 (by simp)).ab k3 (by simp);have l8:Row w3 g4 116 62 (cz p 0):=(r4.ab k3 (by simp)).congr (fun j hj=>by unfold cz;rw[if_neg (by omega)]);have kk:Aa [] w w3:=(k1.trans k2).trans k3;have yx:x≠y:=by omega
 have y4:y≠g4:=by omega
 have y2:y≠g2:=by omega
 have g42:g4≠g2:=by omega
 have x4:x≠g4:=by omega
 have yw:w.heap.size<=y:=by omega
 have gw:w.heap.size<=g4:=by omega
 have g2w:w.heap.size<=g2:=by omega
 clear hxc ry r4 r2 k1 k2 k3 dj gO gg hy hg4 hg2 bM w1 w2;have q:Dl w y x g4 g2:=⟨yx,y4,y2,g42,x4,yw,gw⟩;have S:BH w w3 y x g4 g2 o c p (5*0) 0:=⟨R3,l8,r22,kk⟩;clear R3 l8 r22 kk yx y4 y2 g42 x4 yw gw;conv=>whnf
 repeat (refine CW.s ?_;conv=>whnf)
 refine CW.loop (ι:=Nat) (fun i wr=>i<=24/\BH w wr y x g4 g2 o c p (5*i) i) (fun i=>[(2,.pointer (some ⟨g2,0,none⟩)),(4,.pointer (some ⟨g4,0,none⟩)),(5,.pointer (some ⟨y,0,none⟩)),(22,.int .i64 i)]) (fun i=>24-i) 0 ai ⟨by omega,S⟩ ⟨rfl,rfl,rfl,rfl,trivial⟩ ?_;clear S w3;rintro k wr ⟨hk,S⟩;by_cases av:k<24
 ·obtain⟨v,hv,sn⟩:=uF (hp.fl k av);conv=>whnf
  repeat ((first|refine Br.y ?_|refine CW.s ?_);conv=>whnf)
  refine Ca.of (nC wr y x (o+5*k) (174-5*k) (c-5*k) _ S.rd v 5 (by omega) (by omega) (by omega) (by omega) q.yx (fun j hj=>by rw[<-hv];exact(ah9 p av hj).symm)) ?_;rintro _ w2 ⟨rfl,R2,k2⟩;have S2:=S.aaI q R2 k2;conv=>whnf
  repeat (refine Ix.n ?_;conv=>whnf)
  refine Sd.rowAt S2.sw k (by omega) (by omega) rfl ?_;intro w3 r3 k3;have S3:=S2.laid q r3 (by rw[p.iy av,hv]) k3;conv=>whnf
  repeat (refine Ar.la ?_;conv=>whnf)
  exact⟨k+1,⟨av,S3⟩,⟨rfl,rfl,rfl,rfl,trivial⟩,by simp only;omega⟩
 obtain rfl:k=24:=by omega
 clear av hk;obtain⟨v,hv,sn⟩:=uF hp.next;conv=>whnf
 repeat ((first|refine Br.f ?_|refine CW.s ?_);conv=>whnf)
 refine Ca.of (nC wr y x (o+5*24) (174-5*24) (c-5*24) _ S.rd v 5 (by omega) (by omega) (by omega) (by omega) q.yx (fun j hj=>by rw[<-hv];exact(abb p hj).symm)) ?_;rintro _ w2 ⟨rfl,R2,k2⟩;have S2:=S.aaI q R2 k2;conv=>whnf
 refine Sd.rowAt S2.sw 24 (by omega) (by omega) rfl ?_;intro w3 r3 k3;have S3:=S2.laid q r3 (by rw[p.afx,hv]) k3;clear S S2 R2 k2 r3 k3 wr w2 hv sn;conv=>whnf
 have ac0:gU p 12<2^12:=mO p 12;refine Ca.of (nC w3 y x (o+125) (174-125) (c-125) _ S3.rd (gU p 12) 2 (by omega) (by omega) (by omega) (by omega) q.yx (fun j hj=>(aed p hj).symm)) ?_;rintro _ w4 ⟨rfl,R4,k4⟩;have S4:=S3.aaI q R4 k4;clear S3 R4 k4 w3;conv=>whnf
 repeat (refine CW.s ?_;conv=>whnf)
 refine CW.loop (ι:=Nat) (fun i wr=>i<=12/\BH w wr y x g4 g2 o c p 127 (25+i)) (fun i=>[(2,.pointer (some ⟨g2,0,none⟩)),(4,.pointer (some ⟨g4,0,none⟩)),(5,.pointer (some ⟨y,0,none⟩)),(7,.int .i64 (gU p 12:Nat)),(36,.int .i64 i)]) (fun i=>12-i) 0 ai ⟨by omega,S4⟩ ⟨rfl,rfl,rfl,rfl,rfl,trivial⟩ ?_;clear S4 w4;rintro k wr ⟨hk,S⟩;by_cases av:k<12
 ·have aqW:=xH p k 12 av;have hsm:gU p 12/2^k<2^12:=Nat.lt_of_le_of_lt (Nat.div_le_self _ _) ac0;conv=>whnf
  repeat ((first|(refine Sh.apb (by omega) ?_)|refine Ix.n ?_|refine Br.y ?_|refine CW.s ?_);conv=>whnf)
  have hand:=tE (a:=gU p 12/2^k) (b:=1) (by omega) (by decide);rw[Nat.and_one_is_mod,aqW,Int.natCast_one] at hand;rw[hand];refine Sd.rowAt S.sw (25+k) (by omega) (by omega) rfl ?_;intro w3 r3 k3;have S3:=S.laid q r3 (by rw[p.jZ av];cases p.bad k<;>rfl) k3;conv=>whnf
  repeat (refine Ar.la ?_;conv=>whnf)
  exact⟨k+1,⟨av,S3⟩,⟨rfl,rfl,rfl,rfl,rfl,trivial⟩,by simp only;omega⟩
 obtain rfl:k=12:=by omega
 clear av hk;obtain⟨v2,hv,sn⟩:=uF hp.cur;conv=>whnf
 repeat ((first|refine Br.f ?_|refine CW.s ?_);conv=>whnf)
 refine Ca.of (nC wr y x (o+127) (174-127) (c-127) _ S.rd v2 1 (by omega) (by omega) (by omega) (by omega) q.yx (fun j hj=>by rw[<-hv];exact(aee p hj).symm)) ?_;rintro _ w2 ⟨rfl,R2,k2⟩;have S2:=S.aaI q R2 k2;conv=>whnf
 refine Sd.rowAt S2.sw 37 (by omega) (by omega) rfl ?_;intro w3 r3 k3;have S3:BH w w3 y x g4 g2 o c p (128+2*0) (38+0):=S2.laid q r3 (by rw[p.ah8,hv]) k3;clear S S2 R2 k2 r3 k3 wr w2;conv=>whnf
 repeat (refine CW.s ?_;conv=>whnf)
 refine CW.loop (ι:=Nat) (fun i wr=>i<=12/\BH w wr y x g4 g2 o c p (128+2*i) (38+i)) (fun i=>[(2,.pointer (some ⟨g2,0,none⟩)),(4,.pointer (some ⟨g4,0,none⟩)),(5,.pointer (some ⟨y,0,none⟩)),(7,.int .i64 (gU p 12:Nat)),(51,.int .i64 i)]) (fun i=>12-i) 0 ai ⟨by omega,S3⟩ ⟨rfl,rfl,rfl,rfl,rfl,trivial⟩ ?_;clear S3 w3;rintro k wr ⟨hk,S⟩;by_cases av:k<12
 ·obtain⟨v,hv,sn⟩:=uF (hp.rd k av);conv=>whnf
  repeat ((first|refine Br.y ?_|refine CW.s ?_);conv=>whnf)
  refine Ca.of (nC wr y x (o+(128+2*k)) (174-(128+2*k)) (c-(128+2*k)) _ S.rd v 2 (by omega) (by omega) (by omega) (by omega) q.yx (fun j hj=>by rw[<-hv];exact(aia p av hj).symm)) ?_;rintro _ w2 ⟨rfl,R2,k2⟩;have S2:=S.aaI q R2 k2;conv=>whnf
  repeat (refine Ix.n ?_;conv=>whnf)
  refine Sd.rowAt S2.sw (38+k) (by omega) (by omega) rfl ?_;intro w3 r3 k3;have S3:=S2.laid q r3 (by rw[p.nA av,hv]) k3;conv=>whnf
  repeat (refine Ar.la ?_;conv=>whnf)
  exact⟨k+1,⟨av,S3⟩,⟨rfl,rfl,rfl,rfl,rfl,trivial⟩,by simp only;omega⟩
 obtain rfl:k=12:=by omega
 clear av hk;replace S:BH w wr y x g4 g2 o c p (152+0) (50+0):=S;conv=>whnf
 repeat ((first|refine Br.f ?_|refine CW.s ?_);conv=>whnf)
 refine CW.loop (ι:=Nat) (fun i wr=>i<=12/\BH w wr y x g4 g2 o c p (152+i) (50+i)) (fun i=>[(2,.pointer (some ⟨g2,0,none⟩)),(4,.pointer (some ⟨g4,0,none⟩)),(5,.pointer (some ⟨y,0,none⟩)),(7,.int .i64 (gU p 12:Nat)),(60,.int .i64 i)]) (fun i=>12-i) 0 ai ⟨by omega,S⟩ ⟨rfl,rfl,rfl,rfl,rfl,trivial⟩ ?_;clear S wr;rintro k wr ⟨hk,S⟩;by_cases av:k<12
 ·obtain⟨v,hv,sn⟩:=uF (hp.sc k av);conv=>whnf
  repeat ((first|refine Br.y ?_|refine CW.s ?_);conv=>whnf)
  refine Ca.of (nC wr y x (o+(152+k)) (174-(152+k)) (c-(152+k)) _ S.rd v 1 (by omega) (by omega) (by omega) (by omega) q.yx (fun j hj=>by rw[<-hv];exact(aib p av hj).symm)) ?_;rintro _ w2 ⟨rfl,R2,k2⟩;have S2:=S.aaI q R2 k2;conv=>whnf
  repeat (refine Ix.n ?_;conv=>whnf)
  refine Sd.rowAt S2.sw (50+k) (by omega) (by omega) rfl ?_;intro w3 r3 k3;have S3:=S2.laid q r3 (by rw[p.nB av,hv]) k3;conv=>whnf
  repeat (refine Ar.la ?_;conv=>whnf)
  exact⟨k+1,⟨av,S3⟩,⟨rfl,rfl,rfl,rfl,rfl,trivial⟩,by simp only;omega⟩
 obtain rfl:k=12:=by omega
 clear av hk;obtain⟨rd,sw,ak7,kk⟩:=S;have sw:=sw.congr (fun j hj=>(if_pos hj:cz p 62 j=p.cell j));have uB:=hp.cur;conv=>whnf
 repeat ((first|(refine Ld.rowAt sw 37 (by omega) (by omega) ?_)|(refine Sh.apb (n:=12) (by omega) ?_)|(refine Ld.row rd.row (by omega) ?_)|refine Br.t ?_|refine Br.f ?_|refine Pk.t ?_|refine Br.y ?_|refine CW.s ?_);conv=>whnf)
 refine CW.loop (ι:=Nat) (fun i w'=>i<=10/\w'=wr) (fun i=>[(2,.pointer (some ⟨g2,0,none⟩)),(4,.pointer (some ⟨g4,0,none⟩)),(11,.bool true),(80,.slice (some ⟨x,o+(152+12),none⟩) (174-(152+12)) (c-(152+12))),(81,.int .i64 10),(82,.int .i64 i)]) (fun i=>10-i) 0 ai ⟨by omega,rfl⟩ ⟨rfl,rfl,vb (by simp;omega),rfl,rfl,rfl,trivial⟩ ?_;rintro k w' ⟨hk,rfl⟩;by_cases av:k<10
 ·have hci:=rd.cells k (by omega);rw[ak8 p (by omega)] at hci;conv=>whnf
  repeat ((first|(refine Ld.of hci ?_)|refine Br.t ?_|refine Pk.t ?_|refine Ix.n ?_|refine Ar.la ?_|refine Br.y ?_|refine CW.s ?_);conv=>whnf)
  exact⟨k+1,⟨av,rfl⟩,⟨rfl,rfl,rfl,rfl,rfl,rfl,trivial⟩,by simp only;omega⟩
 obtain rfl:k=10:=by omega
 clear av hk;conv=>whnf
 repeat ((first|refine Br.f ?_|refine CW.s ?_);conv=>whnf)
 refine Ru.vR sw underlying116 rfl bu (by omega) ?_;rw[br (fun j _=>by rw[Nat.zero_add]:∀j,j<62->p.cell (0+j)=p.cell j)];conv=>whnf
 refine Ru.im ak7 bu (by omega) (fun j _=>p.bj j) ?_;intro w2 r2 k2;conv=>whnf
 refine Ru.vR r2 underlying116 rfl bu (by omega) ?_;conv=>whnf
 rw[br (fun j hj=>by unfold lay;rw[if_pos (by omega),Nat.zero_add,Nat.sub_zero]:∀j,j<62->lay Cp.zero.cell 0 62 p.cell (0+j)=p.cell j)];exact⟨rfl,rfl,kk.fresh g2w k2⟩
def oS(fo:Bool)(fb fi:Nat)(j:Nat):Value:=if j=0 then .bool fo else if j=1 then .int .i64 (fb:Nat) else .int .i64 (fi:Nat)
def Ah(w:World)(f:Nat)(fo:Bool)(fb fi:Nat):Prop:=Row w f 210 3 (oS fo fb fi)
def aF(fo:Bool)(fi o:Nat):Bool:=fo&&(decide (fi<8)&&aR fi o)
theorem xI(fo:Bool)(fb fi:Nat):Value.agg #[.bool fo,.int .i64 (fb:Nat),.int .i64 (fi:Nat)]=agg 3 (oS fo fb fi):=by
 unfold agg;congr 1;apply Array.ext
 ·simp
 ·intro i h1 h2;simp only[Array.getElem_map,Array.getElem_range];have:i=0\/i=1\/i=2:=by simp at h1;omega
  rcases this with rfl|rfl|rfl<;>rfl
theorem ac1:(Tryz.prog.info? 210).map (·.size)=some 3:=by kernel_rfl
theorem abc(b i:Int)(w:World):(Instr.build 210 #[(0,.bool true),(1,.int .i64 b),(2,.int .i64 i)]).run Tryz.prog w=.ok (.agg #[.bool true,.int .i64 b,.int .i64 i]) w:=by kernel_rfl
theorem pQ(w:World):(Instr.build 210 #[]).run Tryz.prog w=.ok (.agg #[.bool false,.int .i64 0,.int .i64 0]) w:=by kernel_rfl
theorem ac2(fo:Bool)(fb fi j:Nat):(oS fo fb fi j).oneCell'=true:=by
 unfold oS;split
 ·rfl
 ·split<;>rfl
theorem xJ(b i o:Nat)(hi:i<8):aR (b*8+i) o=aR i o:=by
 unfold aR;rw[show(b*8+i)%8=i%8 by omega]
section
variable{w:World}{f:Nat}{fo:Bool}{fb fi:Nat}
theorem Ru.aeg{ro:Bool}{rb ri:Nat}{K:Unit->World->Prop}(r:Ah w f fo fb fi)(k:∀w',Ah w' f ro rb ri->Aa [f] w w'->K () w'):Ru Tryz.prog (storeVar 210 ⟨f,0,none⟩ (.agg #[.bool ro,.int .i64 (rb:Nat),.int .i64 (ri:Nat)])) w K:=by
 rw[xI]
 exact Ru.im r ac1 (by omega) (fun j _=>ac2 ro rb ri j) (fun w' r' k'=>k w' (Row.congr r' (fun j hj=>by
  unfold lay;rw[if_pos (by omega),Nat.sub_zero])) k')
theorem pR(r:Ah w f fo fb fi)(b i:Nat)(hb:b<12)(hi:i<=8):Spec Tryz.prog 155 #[.pointer (some ⟨f,0,none⟩),.int .i64 b,.int .i64 i] w fun v w'=>v=al 0/\Ah w' f true b i/\Aa [f] w w':=by
 refine spec_of_wpE (T:=tt) ai func155 rfl (by decide +kernel) ntmps155 (by simp) ?_;conv=>whnf
 repeat ((first|refine Br.f ?_|refine Pk.f ?_|refine Br.n ?_|refine CW.s ?_);conv=>whnf)
 refine Ru.of (abc _ _ w) ?_;conv=>whnf
 refine Ru.aeg r (rb:=b) (ri:=i) ?_;intro w2 r2 k2;conv=>whnf
 exact⟨rfl,rfl,r2,k2⟩
theorem xK(r:Ah w f fo fb fi):Spec Tryz.prog 182 #[.pointer (some ⟨f,0,none⟩)] w fun v w'=>v=.tuple #[]/\Ah w' f false 0 0/\Aa [f] w w':=by
 refine spec_of_wpE (T:=tt) ai func182 rfl (by decide +kernel) ntmps182 (by simp) ?_;conv=>whnf
 refine Ru.of (pQ w) ?_;conv=>whnf
 refine Ru.aeg r (rb:=0) (ri:=0) ?_;intro w2 r2 k2;conv=>whnf
 exact⟨rfl,rfl,r2,k2⟩
theorem kg(r:Ah w f fo fb fi):Spec Tryz.prog 111 #[.pointer (some ⟨f,0,none⟩)] w fun v w'=>v=.int .i64 (if fo then (fb:Int) else -1)/\w=w':=by
 refine spec_of_wpE (T:=tt) ai func111 rfl (by decide +kernel) ntmps111 (by simp) ?_
 cases fo with
 | true =>
  conv=>whnf
  repeat ((first|(refine Ld.rowAt r 0 (by omega) (by omega) ?_)|(refine Ld.rowAt r 1 (by omega) (by omega) ?_)|refine Br.f ?_|refine CW.s ?_);conv=>whnf)
  exact⟨rfl,rfl,rfl⟩
 | false =>
  conv=>whnf
  repeat ((first|(refine Ld.rowAt r 0 (by omega) (by omega) ?_)|refine Br.t ?_|refine CW.s ?_);conv=>whnf)
  exact⟨rfl,rfl,rfl⟩
theorem mP(r:Ah w f fo fb fi)(o:Nat)(hb:fb<12)(hi:fi<=8)(ho:o<=24):Spec Tryz.prog 153 #[.pointer (some ⟨f,0,none⟩),.int .i64 o] w fun v w'=>v=.bool (aF fo fi o)/\Ah w' f fo fb fi/\Aa [] w w':=by
 refine spec_of_wpE (T:=tt) ai func153 rfl (by decide +kernel) ntmps153 (by simp) ?_;conv=>whnf
 refine CW.held (fun w'=>Ah w' f fo fb fi) [] (.take 0 (.take 1 (.take 2 (.take 3 (.take 4 (.take 5 (.take 6 (.take 7 (.one 8 (.take 9 (.take 10 (.take 11 (.take 12 (.take 13 (.done))))))))))))))) ai (by kernel_rfl) (by kernel_rfl) (by kernel_rfl) ?_ ?_
 ·exact Row.drewN r 1
 have r:=Row.drewN r 1;have k1:=(Aa.refl [] w).drewN 1;generalize w.drewN 1=w1 at *;conv=>whnf
 repeat ((first|(refine Ag.at (j:=1) (by omega) (fun _ h=>Row.cell h 1 (by omega)) ?_)|(refine Ag.at (j:=2) (by omega) (fun _ h=>Row.cell h 2 (by omega)) ?_));conv=>whnf)
 refine Ca.of (qL w1 fb fi hb hi) ?_;rintro _ _ ⟨rfl,rfl⟩;unfold aF;by_cases h8:fi<8
 ·rw[if_pos h8];have hd:decide (fi<8)=true:=decide_eq_true h8;rw[hd];conv=>whnf
  refine⟨r,?_⟩
  cases fo with
  | false =>
   conv=>whnf
   repeat ((first|(refine Ld.rowAt r 0 (by omega) (by omega) ?_)|refine Br.t ?_|refine Pk.t ?_|refine CW.s ?_);conv=>whnf)
   exact⟨rfl,rfl,r,k1⟩
  | true =>
   conv=>whnf
   repeat ((first|(refine Ld.rowAt r 0 (by omega) (by omega) ?_)|refine Br.f ?_|refine Pk.f ?_|refine Ru.ak ?_|refine CW.s ?_);conv=>whnf)
   refine Ca.of (aa7 w1 (fb*8+fi) o (by omega) ho) ?_;rintro _ _ ⟨rfl,rfl⟩;rw[xJ fb fi o h8]
   cases aR fi o with
   | true =>
    conv=>whnf
    repeat ((first|refine Br.t ?_|refine Pk.t ?_|refine Ru.bh ?_);conv=>whnf)
    exact⟨rfl,rfl,r,k1⟩
   | false =>
    conv=>whnf
    repeat ((first|refine Br.f ?_|refine Pk.f ?_);conv=>whnf)
    exact⟨rfl,rfl,r,k1⟩
 ·rw[if_neg h8];have hd:decide (fi<8)=false:=decide_eq_false h8;rw[hd];conv=>whnf
  refine⟨r,?_⟩
  cases fo with
  | false =>
   conv=>whnf
   repeat ((first|(refine Ld.rowAt r 0 (by omega) (by omega) ?_)|refine Br.t ?_|refine Pk.t ?_|refine CW.s ?_);conv=>whnf)
   exact⟨rfl,rfl,r,k1⟩
  | true =>
   conv=>whnf
   repeat ((first|(refine Ld.rowAt r 0 (by omega) (by omega) ?_)|refine Br.t ?_|refine Br.f ?_|refine Pk.f ?_|refine Ru.n1 ?_|refine CW.s ?_);conv=>whnf)
   exact⟨rfl,rfl,r,k1⟩
theorem afJ(n j:Nat)(hj:j<3):put (oS fo fb fi) 2 (.int .i64 (n:Nat)) j=oS fo fb n j:=by
 have:j=0\/j=1\/j=2:=by omega
 rcases this with rfl|rfl|rfl<;>rfl
theorem uG(r:Ah w f fo fb fi)(o:Nat)(hb:fb<12)(hi:fi<=8)(ho:o<=24)(hr:aF fo fi o=true):Spec Tryz.prog 108 #[.pointer (some ⟨f,0,none⟩),.int .i64 o] w fun v w'=>v=.tuple #[.int .i64 ((fb*8+fi:Nat):Int),al 0]/\Ah w' f fo fb (fi+1)/\Aa [f] w w':=by
 have fR:fo=true:=by
  unfold aF at hr
  cases fo
  ·cases hr
  ·rfl
 have h8:fi<8:=by
  unfold aF at hr;simp only[Bool.and_eq_true,decide_eq_true_eq] at hr;exact hr.2.1
 subst fR;refine spec_of_wpE (T:=tt) ai func108 rfl (by decide +kernel) ntmps108 (by simp) ?_;conv=>whnf
 repeat ((first|(refine Ld.rowAt r 0 (by omega) (by omega) ?_)|refine Br.f ?_|refine Pk.f ?_|refine Br.n ?_|refine CW.s ?_);conv=>whnf)
 refine Ca.of (mP r o hb hi ho) ?_;rintro _ w1 ⟨rfl,r1,k1⟩;rw[hr];conv=>whnf
 repeat ((first|(refine Ld.rowAt r1 2 (by omega) (by omega) ?_)|refine Br.f ?_|refine Ar.la ?_);conv=>whnf)
 refine Sd.rowAt r1 2 (by omega) (by omega) rfl ?_;intro w2 r2 k2;have r2:Ah w2 f true fb (fi+1):=Row.congr r2 (fun j hj=>afJ (fi+1) j hj);conv=>whnf
 refine CW.held (fun w'=>Ah w' f true fb (fi+1)) [] (.take 0 (.take 1 (.take 2 (.take 3 (.take 4 (.take 5 (.take 6 (.take 7 (.take 8 (.one 9 (.take 10 (.take 11 (.take 12 (.take 13 (.done))))))))))))))) ai (by kernel_rfl) (by kernel_rfl) (by kernel_rfl) ?_ ?_
 ·exact Row.drewN r2 1
 have r3:=Row.drewN r2 1;have k3:=((k1.mono (by simp)).trans k2).drewN 1;generalize w2.drewN 1=w3 at *;conv=>whnf
 repeat ((first|(refine Ag.at (j:=1) (by omega) (fun _ h=>Row.cell h 1 (by omega)) ?_)|(refine Ag.at (j:=2) (by omega) (fun _ h=>Row.cell h 2 (by omega)) ?_)|refine Ar.la ?_);conv=>whnf)
 refine Ca.args (args' := #[.int .i64 fb,.int .i64 fi]) (by rw[show(((fi+1:Nat):Int)-1)=fi by omega];rfl) ?_;refine Ca.of (qL w3 fb fi hb hi) ?_;rintro _ _ ⟨rfl,rfl⟩;rw[if_pos h8];conv=>whnf
 refine⟨r3,?_⟩;conv=>whnf
 exact⟨rfl,rfl,r3,k3⟩
end
/-! The patrol. -/
def apc(cur:Nat)(calls:Int)(j:Nat):Value:=if j=0 then .int .i64 (cur:Nat) else .int .i64 calls
def AG(w:World)(q cur:Nat)(calls:Int):Prop:=Row w q 217 2 (apc cur calls)
theorem ak9(w:World):(Instr.makeSlice 23 (.int .i64 8) (.int .i64 8)).run Tryz.prog w=.ok (.slice (some ⟨w.heap.size,0,none⟩) 8 8) (w.alloc (.cells (madeCells #[.int .i64 0] 8) 3)):=by kernel_rfl
def stF(cur n j:Nat):Value:=if j<n then .int .i64 (((cur+j)%96:Nat):Int) else .int .i64 0
theorem ala(cur n j:Nat):put (stF cur n) n (.int .i64 (((cur+n)%96:Nat):Int)) j=stF cur (n+1) j:=by
 unfold put stF;by_cases h:j=n
 ·subst h;rw[if_pos rfl,if_pos (by omega)]
 ·rw[if_neg h];by_cases h2:j<n
  ·rw[if_pos h2,if_pos (by omega)]
  ·rw[if_neg h2,if_neg (by omega)]
theorem afK(c:Int)(w:World):(Instr.build 217 #[(0,.int .i64 c)]).run Tryz.prog w=.ok (.agg #[.int .i64 c,.int .i64 0]) w:=by kernel_rfl
section
variable{w:World}{q cur:Nat}{calls:Int}
theorem alb(cur:Nat):Value.agg #[.int .i64 (cur:Nat),.int .i64 0]=agg 2 (apc cur 0):=by
 unfold agg;congr 1;apply Array.ext
 ·simp
 ·intro i h1 h2;simp only[Array.getElem_map,Array.getElem_range];have:i=0\/i=1:=by simp at h1;omega
  rcases this with rfl|rfl<;>rfl
theorem xL(hc:cur<96):Spec Tryz.prog 126 #[.int .i64 cur] w fun v w'=>∃g,v=.tuple #[.pointer (some ⟨g,0,none⟩),al 0]/\AG w' g cur 0/\w.heap.size<=g/\Aa [] w w':=by
 refine spec_of_wpE (T:=tt) ai func126 rfl (by decide +kernel) ntmps126 (by simp) ?_;conv=>whnf
 repeat (refine CW.s ?_;conv=>whnf)
 refine Ca.of (aa6 w cur hc) ?_;rintro _ _ ⟨rfl,rfl⟩;conv=>whnf
 repeat ((first|refine Br.f ?_|refine Ru.ak ?_);conv=>whnf)
 refine Ru.of ((afK _ w).trans (by rw[alb])) ?_;conv=>whnf
 refine Ru.dr ?_;intro g w1 hg dj r1 k1;conv=>whnf
 exact⟨rfl,g,rfl,r1,by omega,k1⟩
theorem uH(r:AG w q cur calls):Spec Tryz.prog 88 #[.pointer (some ⟨q,0,none⟩)] w fun v w'=>v=.int .i64 (cur:Nat)/\w=w':=by
 refine spec_of_wpE (T:=tt) ai func88 rfl (by decide +kernel) ntmps88 (by simp) ?_;conv=>whnf
 repeat ((refine Ld.rowAt r 0 (by omega) (by omega) ?_);conv=>whnf)
 exact⟨rfl,rfl,rfl⟩
theorem aeh(r:AG w q cur calls):Spec Tryz.prog 103 #[.pointer (some ⟨q,0,none⟩)] w fun v w'=>v=.bool (decide (calls≥8))/\w=w':=by
 refine spec_of_wpE (T:=tt) ai func103 rfl (by decide +kernel) ntmps103 (by simp) ?_;conv=>whnf
 repeat ((refine Ld.rowAt r 1 (by omega) (by omega) ?_);conv=>whnf)
 exact⟨rfl,rfl,rfl⟩
theorem afL(r:AG w q cur calls):Spec Tryz.prog 162 #[.pointer (some ⟨q,0,none⟩)] w fun v w'=>v=.tuple #[]/\AG w' q cur 0/\Aa [q] w w':=by
 refine spec_of_wpE (T:=tt) ai func162 rfl (by decide +kernel) ntmps162 (by simp) ?_;conv=>whnf
 refine Sd.rowAt r 1 (by omega) (by omega) rfl ?_;intro w2 r2 k2;conv=>whnf
 refine⟨rfl,rfl,Row.congr r2 (fun j hj=>?_),k2⟩;have:j=0\/j=1:=by omega
 rcases this with rfl|rfl<;>rfl
theorem abd(r:AG w q cur calls)(hc:cur<96):Spec Tryz.prog 95 #[.pointer (some ⟨q,0,none⟩)] w fun v w'=>∃g,v=.slice (some ⟨g,0,none⟩) 8 8/\Row w' g 3 8 (fun j=>.int .i64 (((cur+j)%96:Nat):Int))/\w.heap.size<=g/\AG w' q ((cur+8)%96) (jI (calls+1))/\Aa [q] w w':=by
 refine spec_of_wpE (T:=tt) ai func95 rfl (by decide +kernel) ntmps95 (by simp) ?_;conv=>whnf
 refine Ru.of (ak9 w) ?_;have rg:Row (w.alloc (.cells (madeCells #[.int .i64 0] 8) 3)) w.heap.size 3 8 (stF cur 0):=(Row.made _ _ _ _).congr (fun j _=>rfl);have k1:Aa [] w (w.alloc (.cells (madeCells #[.int .i64 0] 8) 3)):=(Aa.refl _ _).alloc _;have hql:=r.lt;have r1:AG _ q cur calls:=Row.ab r k1 (by simp);generalize hg:w.heap.size=g at *;generalize w.alloc _=w1 at *;have dqg:q≠g:=by omega
 conv=>whnf
 repeat (refine CW.s ?_;conv=>whnf)
 refine CW.loop (ι:=Nat) (fun i w'=>i<=8/\Row w' g 3 8 (stF cur i)/\AG w' q ((cur+i)%96) calls/\Aa [q,g] w1 w') (fun i=>[(0,.pointer (some ⟨q,0,none⟩)),(3,.slice (some ⟨g,0,none⟩) 8 8),(7,.int .i64 8),(8,.int .i64 i)]) (fun i=>8-i) 0 ai ⟨by omega,rg,by rw[Nat.add_zero,Nat.mod_eq_of_lt hc];exact r1,Aa.refl _ _⟩ ⟨rfl,rfl,rfl,rfl,trivial⟩ ?_;rintro i wr ⟨hi,ri,rp,ki⟩;by_cases av:i<8
 ·have hm:(cur+i)%96<96:=Nat.mod_lt _ (by omega);conv=>whnf
  repeat ((first|(refine Ld.rowAt rp 0 (by omega) (by omega) ?_)|refine Ix.n ?_|refine Br.y ?_|refine CW.s ?_);conv=>whnf)
  refine Sd.rowAt ri i (by omega) (by omega) rfl ?_;intro w2 r2 k2;have r2:=r2.congr (fun j _=>ala cur i j);have rp2:AG w2 q _ calls:=Row.ab rp k2 (by simpa using dqg);conv=>whnf
  repeat ((refine Ld.rowAt rp2 0 (by omega) (by omega) ?_);conv=>whnf)
  refine Ca.args (args' := #[.int .i64 (((cur+i)%96:Nat):Int),.int .i64 1]) rfl ?_;refine Ca.of (ani w2 ((cur+i)%96) hm) ?_;rintro _ _ ⟨rfl,rfl⟩;conv=>whnf
  refine Sd.rowAt rp2 0 (by omega) (by omega) rfl ?_;intro w3 r3 k3;conv=>whnf
  repeat (refine Ar.la ?_;conv=>whnf)
  refine⟨i+1,⟨av,r2.ab k3 (by simpa using dqg.symm),Row.congr r3 (fun j hj=>?_),(ki.trans (k2.mono (by simp))).trans (k3.mono (by simp))⟩,⟨rfl,rfl,rfl,vi (by omega),trivial⟩,by simp only;omega⟩;have:j=0\/j=1:=by omega
  rcases this with rfl|rfl
  ·show Value.int .i64 ((((cur+i)%96+1)%96:Nat):Int)=Value.int .i64 (((cur+(i+1))%96:Nat):Int);exact vi (by omega)
  ·rfl
 ·obtain rfl:i=8:=by omega
  conv=>whnf
  repeat ((first|(refine Ld.rowAt rp 1 (by omega) (by omega) ?_)|(refine Ar.tB ?_)|refine Br.f ?_|refine CW.s ?_);conv=>whnf)
  refine Sd.rowAt rp 1 (by omega) (by omega) rfl ?_;intro w2 r2 k2;conv=>whnf
  refine⟨rfl,g,rfl,(ri.ab k2 (by simpa using dqg.symm)).congr (fun j hj=>?_),by omega,Row.congr r2 (fun j hj=>?_),k1.mono (by simp) |>.then ((ki.trans (k2.mono (by simp)))) (fun x hx=>by simp at hx ⊢;omega)⟩
  ·unfold stF;rw[if_pos hj]
  ·have:j=0\/j=1:=by omega
   rcases this with rfl|rfl<;>rfl
end
def bs(s l:Nat->Int):Nat->Int
 |0=>-1
 |k+1=>if s k=2/\(bs s l k<0\/l k<l (bs s l k).toNat) then k else bs s l k
theorem nF(s l:Nat->Int)(k:Nat) : -1<=bs s l k/\bs s l k<k:=by
 induction k with
 |zero=>simp[bs]
 |succ k ih=>unfold bs;split<;>omega
theorem xM(w:World)(A B:Option Addr)(c d:Nat)(s l:Nat->Int)(rs:Rd w A 12 (fun j=>.int .i64 (s j)))(rl:Rd w B 12 (fun j=>.int .i64 (l j))) :
  Spec Tryz.prog 156 #[.slice A 12 c,.slice B 12 d] w fun v w'=>v=.tuple #[.int .i64 (if bs s l 12<0 then 0 else bs s l 12),al (if bs s l 12<0 then 11 else 0)]/\Aa [] w w':=by
 obtain⟨ba,oa,rfl,ha⟩:=rs (by omega);obtain⟨bb,ob,rfl,hb⟩:=rl (by omega);refine spec_of_wpE (T:=tt) ai func156 rfl (by decide +kernel) ntmps156 (by simp) ?_;conv=>whnf
 repeat ((first|refine Br.f ?_|refine Pk.f ?_|refine CW.s ?_);conv=>whnf)
 refine CW.loop (ι:=Nat) (fun i wr=>i<=12/\Aa [] w wr) (fun i=>[(0,.slice (some ⟨ba,oa,none⟩) 12 c),(1,.slice (some ⟨bb,ob,none⟩) 12 d),(6,.int .i64 (bs s l i)),(18,.slice (some ⟨ba,oa,none⟩) 12 c),(19,.int .i64 12),(20,.int .i64 i)]) (fun i=>12-i) 0 ai ⟨by omega,Aa.refl _ _⟩ ⟨rfl,rfl,rfl,rfl,rfl,rfl,trivial⟩ ?_;rintro i wr ⟨hi,kk⟩;have na:=nF s l i;by_cases av:i<12
 ·have bq:bs s l (i+1)=if s i=2/\(bs s l i<0\/l i<l (bs s l i).toNat) then (i:Int) else bs s l i:=rfl;have cl:∀j,j<12->(wr.drewN 1).cell? ⟨bb,ob+j,none⟩=some (.int .i64 (l j)):=fun j hj=>(kk.cell (aZ (hb j hj)) (by simp)).trans (hb j hj);have cs:wr.cell? ⟨ba,oa+i,none⟩=some (.int .i64 (s i)):=(kk.cell (aZ (ha i av)) (by simp)).trans (ha i av);generalize bs s l i=t at *;conv=>whnf
  repeat ((first|(refine Ld.of cs ?_)|refine Ix.n ?_|refine Br.y ?_|refine CW.s ?_);conv=>whnf)
  refine CW.quiet (fun w'=>w'=wr.drewN 1) ai (by kernel_rfl) (by kernel_rfl) ?_ ?_
  ·rfl
  by_cases h2:s i=2
  ·by_cases ht:t<0
   ·conv=>whnf
    repeat ((first|refine Br.t ?_|refine Pk.t ?_|refine Br.y ?_);conv=>whnf)
    rintro w3 rfl;conv=>whnf
    repeat ((first|refine Br.t ?_|refine Ar.la ?_);conv=>whnf)
    exact⟨i+1,⟨av,kk.drewN 1⟩,⟨rfl,rfl,vi (by rw[bq,if_pos ⟨h2,.inl ht⟩]),rfl,rfl,rfl,trivial⟩,by simp only;omega⟩
   ·obtain⟨b,rfl⟩:∃b:Nat,t=b:=⟨t.toNat,by omega⟩;rw[Int.toNat_natCast] at bq;have ac0:b<12:=by omega
    by_cases hl:l i<l b
    ·conv=>whnf
     repeat ((first|(refine Ag.at (j:=ob+i) (by omega) (fun _ h=>by subst h;exact cl i av) ?_)|(refine Ag.at (j:=ob+b) (by omega) (fun _ h=>by subst h;exact cl b ac0) ?_)|refine Br.t ?_|refine Br.f ?_|refine Pk.f ?_|refine Pk.t ?_|refine Ix.n ?_|refine Br.y ?_);conv=>whnf)
     rintro w3 rfl;conv=>whnf
     repeat ((first|refine Ar.la ?_|refine Br.y ?_);conv=>whnf)
     exact⟨i+1,⟨av,kk.drewN 1⟩,⟨rfl,rfl,vi (by rw[bq,if_pos ⟨h2,.inr hl⟩]),rfl,rfl,rfl,trivial⟩,by simp only;omega⟩
    ·conv=>whnf
     repeat ((first|(refine Ag.at (j:=ob+i) (by omega) (fun _ h=>by subst h;exact cl i av) ?_)|(refine Ag.at (j:=ob+b) (by omega) (fun _ h=>by subst h;exact cl b ac0) ?_)|refine Br.t ?_|refine Br.f ?_|refine Pk.f ?_|refine Pk.t ?_|refine Ix.n ?_|refine Br.y ?_);conv=>whnf)
     rintro w3 rfl;conv=>whnf
     repeat ((first|refine Ar.la ?_|refine Br.n ?_);conv=>whnf)
     exact⟨i+1,⟨av,kk.drewN 1⟩,⟨rfl,rfl,vi (by rw[bq,if_neg (fun h=>h.2.elim ht hl)]),rfl,rfl,rfl,trivial⟩,by simp only;omega⟩
  ·conv=>whnf
   repeat ((first|refine Br.f ?_|refine Pk.f ?_|refine Br.n ?_);conv=>whnf)
   rintro w3 rfl;conv=>whnf
   repeat ((first|refine Br.f ?_|refine Ar.la ?_);conv=>whnf)
   exact⟨i+1,⟨av,kk.drewN 1⟩,⟨rfl,rfl,vi (by rw[bq,if_neg (fun h=>h2 h.1)]),rfl,rfl,rfl,trivial⟩,by simp only;omega⟩
 ·obtain rfl:i=12:=by omega
  by_cases ht:bs s l 12<0
  ·rw[if_pos ht,if_pos ht];conv=>whnf
   repeat ((first|refine Br.f ?_|refine Br.y ?_|refine CW.s ?_);conv=>whnf)
   exact⟨rfl,rfl,kk⟩
  ·rw[if_neg ht,if_neg ht];conv=>whnf
   repeat ((first|refine Br.f ?_|refine Br.n ?_|refine CW.s ?_);conv=>whnf)
   exact⟨rfl,rfl,kk⟩
def qF(q:List Nat)(j:Nat):Value:=.int .i64 (q.getD j 0:Nat)
theorem lA(q:List Nat){j:Nat}(h:j<q.length):q.getD j 0=q[j]:=by simp[List.getD,h]
theorem aif(w:World)(X:Option Addr)(c:Nat)(q:List Nat)(b:Nat)(r:Rd w X q.length (qF q))(hq:q.length<=12) :
  Spec Tryz.prog 181 #[.slice X q.length c,.int .i64 b] w fun v w'=>∃x:Int,v=.int .i64 x/\(0<=x↔b∈q)/\w=w':=by
 refine spec_of_wpE (T:=tt) ai func181 rfl (by decide +kernel) ntmps181 (by simp) ?_;conv=>whnf
 repeat (refine CW.s ?_;conv=>whnf)
 refine CW.loop (ι:=Nat) (fun i wr=>i<=q.length/\wr=w/\∀j,j<i->q.getD j 0≠b) (fun i=>[(0,.slice X q.length c),(1,.int .i64 b),(7,.int .i64 q.length),(8,.int .i64 i)]) (fun i=>q.length-i) 0 ai ⟨by omega,rfl,fun j hj=>by omega⟩ ⟨rfl,rfl,rfl,rfl,trivial⟩ ?_;rintro i wr ⟨hi,rfl,lW⟩;by_cases av:i<q.length
 ·obtain⟨g,o,rfl,hc⟩:=r (by omega);have ci:=hc i av;unfold qF at ci;by_cases he:b=q.getD i 0
  ·conv=>whnf
   repeat ((first|(refine Ld.of ci ?_)|refine Ix.n ?_|refine Br.y ?_|refine CW.s ?_);conv=>whnf)
   refine⟨rfl,_,rfl,⟨fun _=>?_,fun _=>by omega⟩,rfl⟩;rw[he,lA q av];exact List.getElem_mem av
  ·conv=>whnf
   repeat ((first|(refine Ld.of ci ?_)|refine Ix.n ?_|refine Ar.la ?_|refine Br.y ?_|refine Br.n ?_|refine CW.s ?_);conv=>whnf)
   exact⟨i+1,⟨av,rfl,fun j hj=>by
    by_cases e:j=i
    ·subst e;exact fun h=>he h.symm
    ·exact lW j (by omega)⟩,⟨rfl,rfl,rfl,vi (by omega),trivial⟩,by simp only;omega⟩
 ·obtain rfl:i=q.length:=by omega
  conv=>whnf
  repeat ((first|refine Br.n ?_|refine CW.s ?_);conv=>whnf)
  refine⟨rfl,_,rfl,⟨fun h=>by omega,fun h=>?_⟩,rfl⟩;obtain⟨j,hj,e⟩:=List.getElem_of_mem h;exact absurd (by rw[lA q hj,e]) (lW j hj)
theorem abe(w:World)(X:Option Addr)(c:Nat)(q:List Nat)(b:Nat)(r:Rd w X q.length (qF q))(hq:q.length<=12) :
  Spec Tryz.prog 143 #[.slice X q.length c,.int .i64 b] w fun v w'=>v=.bool (decide (b∈q))/\w=w':=by
 refine spec_of_wpE (T:=tt) ai func143 rfl (by decide +kernel) ntmps143 (by simp) ?_;conv=>whnf
 refine Ca.of (aif w X c q b r hq) ?_;rintro _ _ ⟨x,rfl,hx,rfl⟩;conv=>whnf
 exact⟨rfl,vb (by simp only[ge_iff_le,hx]),rfl⟩
structure BX(w:World)(k:Nat)(T:TypeId)(N o:Nat)(F:Nat->Value)(X:Option Addr)(c:Nat)(q:List Nat):Prop where
 row:Row w k T N F
 at_:F o=.slice X q.length c
 ly:Ly w 3 1 X q.length c (qF q)
def sx(q:List Nat)(b:Nat):List Nat:=if b∈q then q else q++[b]
def Bl(w:World)(k:Nat)(T:TypeId)(N o:Nat)(F:Nat->Value)(X:Option Addr)(q':List Nat)(w':World):Prop :=
 ∃Y d,BX w' k T N o (put F o (.slice Y q'.length d)) Y d q'/\Aa (k::aK X) w w'/\∀x,x∈aK Y->x∈aK X\/w.heap.size<=x
section
variable{w:World}{k:Nat}{T:TypeId}{N o:Nat}{F:Nat->Value}{X:Option Addr}{c:Nat}{q:List Nat}
theorem aih(v:Int)(w:World):(Instr.buildSlice 23 1 #[(0,.int .i64 v)]).run Tryz.prog w=.ok (.slice (some ⟨w.heap.size,0,none⟩) 1 1) (w.alloc (.cells #[.int .i64 v] 3)):=by kernel_rfl
theorem zC(h:BX w k T N o F X c q)(ho:o<N)(hT:T≠3)(hq:q.length<=12)(b:Nat)(hb:b<12) :
  Spec Tryz.prog 98 #[.pointer (some ⟨k,o,none⟩),.int .i64 b] w fun v w'=>v=al 0/\Bl w k T N o F X (sx q b) w':=by
 obtain⟨i0,hi,lZ,lR,l4⟩:=info_parts tf;have bM:w.cell? ⟨k,o,none⟩=some (.slice X q.length c):=(h.row.cell o ho).trans (congrArg some h.at_);refine spec_of_wpE (T:=tt) ai func98 rfl (by decide +kernel) ntmps98 (by simp) ?_;conv=>whnf
 repeat ((first|(refine Ld.of bM ?_)|refine Br.f ?_|refine Pk.f ?_|refine Br.n ?_|refine CW.s ?_);conv=>whnf)
 refine Ca.of (abe w X c q b (by have:=h.ly.rd;rwa [Nat.mul_one] at this) hq) ?_;rintro _ _ ⟨rfl,rfl⟩;by_cases hm:b∈q
 ·conv=>whnf
  repeat (refine Br.ny ?_;conv=>whnf)
  refine⟨rfl,rfl,?_⟩;unfold sx;rw[if_pos hm];refine⟨X,c,⟨h.row.congr (fun j _=>?_),by unfold put;rw[if_pos rfl],h.ly⟩,Aa.refl _ _,fun x hx=>.inl hx⟩;unfold put;split
  ·rename_i e
   rw[e,h.at_]
  ·rfl
 ·conv=>whnf
  repeat ((first|(refine Ld.of bM ?_)|refine Br.nn ?_);conv=>whnf)
  refine Ru.of (aih _ _) ?_;have ka:Aa [] w (w.alloc (.cells #[.int .i64 b] 3)):=(Aa.refl _ _).alloc _;have ha:Rd (w.alloc (.cells #[.int .i64 b] 3)) (some ⟨w.heap.size,0,none⟩) 1 (fun _=>.int .i64 b):=ab5 (heap_alloc_new _ _);have l2:=h.ly.aj ka;have r2:=h.row.ab ka (by simp);have hX:∀x,x∈aK X->x<w.heap.size:=fun x hx=>h.ly.kR hx;have vP:(w.alloc (.cells #[.int .i64 b] 3)).heap.size=w.heap.size+1:=by simp
  generalize w.alloc _=w2 at *;conv=>whnf
  refine Bu.append underlying23 hi lZ lR l4 rfl (by omega) l2 (fun _=>.int .i64 b) (by rw[Nat.mul_one];exact ha) (by omega) (by simp) (fun j hj=>rfl) (by simp only[maxLen];omega) (by omega) ?_;intro Z e w3 hz k3 da gZ;have hkX:k∉aK X:=fun hx=>l2.aL r2 hT.symm hx;have r3:=r2.ab k3 hkX;have hkZ:k∉aK Z:=fun hx=>hz.aL r3 hT.symm hx;conv=>whnf
  refine Sd.rowAt r3 o (by omega) ho rfl ?_;intro w4 r4 k4;have hz4:=hz.ab k4 (by intro x hx hm;rw[List.mem_singleton.1 hm] at hx;exact hkZ hx);conv=>whnf
  refine⟨rfl,rfl,Z,e,?_⟩;unfold sx;rw[if_neg hm];have hlen:(q++[b]).length=q.length+1:=by simp
  refine⟨⟨by rw[hlen];exact r4,by unfold put;rw[if_pos rfl],?_⟩,?_,?_⟩
  ·rw[hlen];refine hz4.congr (fun j hj=>?_);unfold qF;rw[Nat.mul_one] at hj ⊢;by_cases kL:j<q.length
   ·rw[if_pos kL,lA q kL,lA (q++[b]) (by omega),List.getElem_append_left kL]
   ·obtain rfl:j=q.length:=by omega
    rw[if_neg kL,lA (q++[b]) (by omega)];simp
  ·exact((ka.mono (by simp)).trans (k3.mono (fun x hx=>List.mem_cons_of_mem _ hx))).trans (k4.mono (fun x hx=>by rw[List.mem_singleton.1 hx];exact List.mem_cons_self ..))
  ·intro x hx;rcases da with e'|e'
   ·rw[e'] at hx;exact .inl hx
   ·rw[e'] at hx;rw[List.mem_singleton.1 hx];exact .inr (by simp only;omega)
theorem Ru.alc{P:Program}{t e:TypeId}{b o n c l:Nat}{K:Value->World->Prop}(hu:P.underlying t=some (.slice e))(hs:kO P e 1=true)(hl:l<=n)(hn:n<=c)(k:∀o',(l<n->o'=o+l)->K (.slice (some ⟨b,o',none⟩) (n-l) (c-l)) w) :
  Ru P (Instr.sliceAt t (.slice (some ⟨b,o,none⟩) n c) (some (.int .i64 (l:Int))) none none) w K:=by
 by_cases hc:l<c
 ·exact Ru.amE hu hs hl hn hc (k _ (fun _=>rfl))
 ·obtain rfl:l=c:=by omega
  obtain⟨h1,h2⟩:=jT (w:=w) hu hs;refine⟨_,_,?_,k o (fun h=>by omega)⟩;rw[run_sliceAt_slice w t _ _ _ _ h1,run_slice_l w t _ n l h1 .i64 l (by omega) (by omega),h2];simp only[Result.andThen_ok,Int.toNat_natCast,sliced,if_pos]
theorem ald:kO Tryz.prog 3 1=true:=by kernel_rfl
theorem uI(h:BX w k T N o F X c [])(ho:o<N):Spec Tryz.prog 99 #[.pointer (some ⟨k,o,none⟩)] w fun v w'=>v=.tuple #[.int .i64 0,.bool false]/\w=w':=by
 have bM:w.cell? ⟨k,o,none⟩=some (.slice X 0 c):=(h.row.cell o ho).trans (congrArg some h.at_);refine spec_of_wpE (T:=tt) ai func99 rfl (by decide +kernel) ntmps99 (by simp) ?_;conv=>whnf
 repeat ((first|(refine Ld.of bM ?_)|refine Br.t ?_|refine CW.s ?_);conv=>whnf)
 exact⟨rfl,rfl,rfl⟩
theorem uJ{b:Nat}{t:List Nat}(h:BX w k T N o F X c (b::t))(ho:o<N)(hT:T≠3)(hq:t.length<=12):Spec Tryz.prog 99 #[.pointer (some ⟨k,o,none⟩)] w fun v w'=>v=.tuple #[.int .i64 b,.bool true]/\Bl w k T N o F X t w':=by
 have bM:w.cell? ⟨k,o,none⟩=some (.slice X (t.length+1) c):=(h.row.cell o ho).trans (congrArg some h.at_);have zD:Rd w X (t.length+1) (qF (b::t)):=by have:=h.ly.rd;rwa [Nat.mul_one] at this
 have uK:=h.ly.1;obtain⟨g,oo,rfl,hc⟩:=zD (by omega);have c0:=hc 0 (by omega);rw[Nat.add_zero] at c0;have c0:w.cell? ⟨g,oo,none⟩=some (.int .i64 b):=c0;refine spec_of_wpE (T:=tt) ai func99 rfl (by decide +kernel) ntmps99 (by simp) ?_;conv=>whnf
 repeat ((first|(refine Ld.of bM ?_)|(refine Ix.of 0 (by omega) (by omega) ?_)|(refine Ld.at (by omega) c0 ?_)|refine Br.f ?_|refine CW.s ?_);conv=>whnf)
 refine Ru.alc underlying23 ald (l:=1) (by omega) uK ?_;intro o' jG;conv=>whnf
 refine Ca.of (Hl.jQ ⟨g,o',none⟩ (t.length+1-1) (c-1) (fun j=>(t.getD j 0:Nat)) w (fun av=>⟨g,o',rfl,fun j hj=>by rw[jG (by omega),Nat.add_assoc,Nat.add_comm 1 j];exact hc (j+1) (by omega)⟩) (by simp only[List.length_cons] at uK;omega) (by omega)) ?_;rintro _ w2 ⟨Y,e,rfl,O⟩;conv=>whnf
 refine Sd.rowAt (h.row.ab O.ab (by simp)) o (by omega) ho rfl ?_;intro w3 r3 k3;have hkY:k∉aK Y:=fun hx=>by
  have:=O.new k hx;have:=h.row.lt;omega
 have hz4:=O.ly.ab k3 (by intro x hx hm;rw[List.mem_singleton.1 hm] at hx;exact hkY hx);conv=>whnf
 exact⟨rfl,rfl,Y,e,⟨r3,by unfold put;rw[if_pos rfl],hz4⟩,(O.ab.mono (by simp)).trans (k3.mono (fun x hx=>by rw[List.mem_singleton.1 hx];exact List.mem_cons_self ..)),fun x hx=>.inr (O.new x hx)⟩
end
end
section
open Go.RowKit Go.Extern.Stop Go.Stop Go.Extern
theorem abf(v:Value)(w:World):(Extern.ReflectliteType.typeOf #[.iface 40 v]).run Tryz.prog w=.ok (.iface 225 (.agg #[.pointer (some ⟨0,40,none⟩)])) w:=by kernel_rfl
def cmpExt : Array Value → Sem Value := Extern.ReflectliteType.method fun t => do Extern.Rtype.noPackHeld "Comparable" t; pure (.bool (← typeInfo t).comparable)
theorem pS(w:World):(cmpExt #[.agg #[.pointer (some ⟨0,40,none⟩)]]).run Tryz.prog w=.ok (.bool true) w:=by kernel_rfl
theorem isMethodComparable (v : Value) (w : World) : (Go.method 470 225 v "Comparable").run Tryz.prog w = .ok (267, v) w := by kernel_rfl
theorem apd(v:Value)(xT:TypeId)(w:World):(Instr.typeAssert (.iface 40 v) xT 227 true).run Tryz.prog w=.ok (.tuple #[.nilIface,.bool false]) w:=run_typeAssert_lacksB underlying227 (by kernel_rfl) (by kernel_rfl) v xT w
theorem afM(v:Value)(xT:TypeId)(w:World):(Instr.typeAssert (.iface 40 v) xT 230 true).run Tryz.prog w=.ok (.tuple #[.nilIface,.bool false]) w:=run_typeAssert_lacksB underlying230 (by kernel_rfl) (by kernel_rfl) v xT w
theorem ac3(v:Value)(xT:TypeId)(w:World):(Instr.typeAssert (.iface 40 v) xT 231 true).run Tryz.prog w=.ok (.tuple #[.nilIface,.bool false]) w:=run_typeAssert_lacksB underlying231 (by kernel_rfl) (by kernel_rfl) v xT w
theorem ans(k:Int)(w:World):Calls Tryz.prog 60 #[.nilIface,.iface 40 (.int .i64 k)] w fun e w'=>e=.returned (.bool false)/\w'=w:=by
 have hn:=run_eql_iface_nil_left (P:=Tryz.prog) w 40 (.int .i64 k) underlying33
 go_enter func60,ntmps60
 go_wp2
 go_ret
 exact⟨rfl,rfl⟩
theorem ale(k:Int)(w:World):Calls Tryz.prog 60 #[.iface 40 (.int .i64 k),.iface 40 (.int .i64 k)] w fun e w'=>e=.returned (.bool true)/\w'=w:=by
 have h8:=@run_callFunc_extern Tryz.prog 93 _ Extern.ReflectliteType.typeOf func93 (by kernel_rfl) (by kernel_rfl) (by kernel_rfl) (by kernel_rfl);have h32:=@run_callFunc_extern Tryz.prog 267 _ cmpExt func267 (by kernel_rfl) (by kernel_rfl) (by kernel_rfl) (by kernel_rfl);have tT:=abf;have cT:=pS;have mR:=isMethodComparable;have heq:(binOp .eql 33 (.iface 40 (.int .i64 k)) (.iface 40 (.int .i64 k))).run Tryz.prog w=.ok (.bool true) w:=by
  rw[tx k k w];simp
 go_enter func60,ntmps60
 go_wp2
 refine wp_loop_rounds 1 ?_;rw[rounds_succ]
 go_wp2
 go_ret
 exact⟨rfl,rfl⟩
theorem aii(c k:Int)(cn:c≠k)(w:World):Calls Tryz.prog 60 #[.iface 40 (.int .i64 c),.iface 40 (.int .i64 k)] w fun e w'=>e=.returned (.bool false)/\w'=w:=by
 have h8:=@run_callFunc_extern Tryz.prog 93 _ Extern.ReflectliteType.typeOf func93 (by kernel_rfl) (by kernel_rfl) (by kernel_rfl) (by kernel_rfl);have h32:=@run_callFunc_extern Tryz.prog 267 _ cmpExt func267 (by kernel_rfl) (by kernel_rfl) (by kernel_rfl) (by kernel_rfl);have tT:=abf;have cT:=pS;have mR:=isMethodComparable;have nE:=apd;have uE:=afM;have vE:=ac3;have heq:(binOp .eql 33 (.iface 40 (.int .i64 c)) (.iface 40 (.int .i64 k))).run Tryz.prog w=.ok (.bool false) w:=by
  rw[tx c k w];simp[cn]
 go_enter func60,ntmps60
 go_wp2
 refine wp_loop_rounds 1 ?_;rw[rounds_succ]
 go_wp2
 go_ret
 exact⟨rfl,rfl⟩
theorem aU(c k:Int)(hk:k≠0)(w:World):Spec Tryz.prog 60 #[al c,.iface 40 (.int .i64 k)] w fun v w'=>v=.bool (decide (c=k))/\w=w':=by
 refine Spec.acy (by kernel_rfl) (Ψ:=fun e w'=>e=.returned (.bool (decide (c=k)))/\w'=w) ?_ (fun e w' h=>⟨_,h.1,rfl,h.2.symm⟩);by_cases h:c=0
 ·subst h;rw[decide_eq_false (fun e=>hk e.symm)];exact ans k w
 ·rw[cS h];by_cases hck:c=k
  ·subst hck;rw[decide_eq_true rfl];exact ale c w
  ·rw[decide_eq_false hck];exact aii c k hck w
end
section
open Go.RowKit
attribute [local irreducible] ahead Fd.sound
def okB(p:Cp)(f:Fd):Bool := !p.bad (f.place/8).toNat
def cK(L:List Fd)(p:Cp):List Fd:=L.filter (okB p)
def lB(p:Cp)(of:Nat):Int:=if of<24 then p.fl of else -1
def placeOf(s:Fd×Bool):Int:=if s.2=true then s.1.place else -1
def bp(L:List Fd)(p:Cp)(of:Nat):Int:=placeOf (az (cK (mK L 96) p) of (lB p of))
theorem ac4(L:List Fd)(p:Cp)(f:Fd):cK (L++[f]) p=cK L p++if okB p f=true then [f] else []:=by
 unfold cK;rw[List.filter_append];simp only[List.filter_cons,List.filter_nil]
theorem xN(L:List Fd)(p:Cp):(cK L p).length<=L.length:=List.length_filter_le _ _
theorem abg(w:World):(Instr.alloc 59 true (.tuple #[])).run Tryz.prog w=.ok (.pointer (some ⟨w.heap.size,0,none⟩)) (w.alloc (eS 25 (fun _=>.int .i64 0) 59)):=by kernel_rfl
theorem uL:(Tryz.prog.info? 59).map (·.size)=some 25:=by kernel_rfl
def aei(v:Nat->Int)(k:Nat)(j:Nat):Value:=if j<k then .int .i64 (v j) else .int .i64 0
theorem xO(v:Nat->Int)(k:Nat):∀j,j<25->put (aei v k) k (.int .i64 (v k)) j=aei v (k+1) j:=fun j _=>by
 unfold put aei;by_cases h:j=k
 ·subst h;rw[if_pos rfl,if_pos (by omega)]
 ·rw[if_neg h];by_cases h2:j<k
  ·rw[if_pos h2,if_pos (by omega)]
  ·rw[if_neg h2,if_neg (by omega)]
theorem alf(f:Nat->Value)(i:Nat)(u v:Value):put (put f i u) i v=put f i v:=by
 funext j;unfold put;by_cases h:j=i<;>simp[h]
def BY(v:Nat->Int)(w:World)(u:Value)(w':World):Prop:=u=agg 25 (fun j=>.int .i64 (v j))/\Aa [] w w'
theorem abh{f:Fd}(h:f.sound=true):0<=f.place/\f.place<=95:=by
 unfold Fd.sound at h;have:=of_decide_eq_true h;omega
theorem aej(A:Option Addr)(c:Nat)(L:List Fd)(p:Cp)(w:World)(hr:Rd w A (L.length*6) (ju L))(hn:L.length*48<=140737488351232) :
  Spec Tryz.prog 130 #[.slice A L.length c,agg 62 p.cell] w (BY (bp L p) w):=by
 obtain⟨i0,hi,lZ,lR,l4⟩:=info_parts lq;have na:=zt L 96;have aqX:=fun f (hf:f∈mK L 96)=>afw hf;unfold bp;refine spec_of_wpE (T:=tt) ai func130 rfl (by decide +kernel) ntmps130 (by simp) ?_;conv=>whnf
 refine Ru.dr ?_;intro g3 w1 hg3 dj r3 k1;conv=>whnf
 refine Ru.aE (abg w1) ?_;intro g4 w2 hg4 gO r4 k2;have r3:=r3.ab k2 (by simp);conv=>whnf
 repeat (refine CW.s ?_;conv=>whnf)
 refine Ca.of (ur A c L w2 (hr.aj (k1.trans k2)) hn) ?_;rintro _ w3 ⟨B,d,rfl,yO,gN,k3⟩;have r3:=r3.ab k3 (by simp);have r4:=r4.ab k3 (by simp);have kk:=(k1.trans k2).trans k3;generalize mK L 96=M at *;have hl4:=r4.lt;conv=>whnf
 refine CW.loop (ι:=Nat×Option Addr×Nat) (fun i w4=>i.1<=M.length/\Ly w4 69 6 i.2.1 (cK (M.take i.1) p).length i.2.2 (ju (cK (M.take i.1) p))/\(∀x,x∈aK i.2.1->w3.heap.size<=x)/\Aa [] w3 w4)
  (fun i=>[(3,.pointer (some ⟨g3,0,none⟩)),(4,.pointer (some ⟨g4,0,none⟩)),(5,.slice i.2.1 (cK (M.take i.1) p).length i.2.2),(14,.slice B M.length d),(15,.int .i64 M.length),(16,.int .i64 i.1)]) (fun i=>M.length-i.1) (0,none,0) ai ⟨by simp,Ly.nil _ _ _ _,(fun _ h=>by cases h),Aa.refl _ _⟩ ⟨rfl,rfl,rfl,rfl,rfl,rfl,trivial⟩ ?_;rintro⟨k,Z,cz⟩ w4 ⟨hk,hlz,aek,k4⟩;simp only at hk hlz aek;by_cases av:k<M.length
 ·obtain⟨b,o,rfl,hc⟩:=mL (yO.aj k4).rd k av;have kM:=jY av;have qz:=xN (M.take k) p;have hlk:(M.take k).length=k:=by simp;omega
  have hs:=aqX _ (show M.getD k Fd.zero∈M by rw[List.getD_eq_getElem?_getD,List.getElem?_eq_getElem av];exact List.getElem_mem av);generalize M.getD k Fd.zero=f at *;have bq:cK (M.take (k+1)) p=cK (M.take k) p++if okB p f=true then [f] else []:=by rw[kM,ac4]
  have hpl:=abh hs;have hb:(f.place/8).toNat<12:=by omega
  conv=>whnf
  repeat ((first|refine Ix.n ?_|refine Br.y ?_|refine CW.s ?_);conv=>whnf)
  refine Ru.aa2 hc ?_;conv=>whnf
  refine Ru.fN ?_;intro g7 w5 hg7 hs5 r7 k5;conv=>whnf
  refine Ru.uo r7 ?_;intro w6 r7 k6;have q6:Aa [] w4 w6:=k5.then k6 (fun x hx=>.inr (by rw[List.mem_singleton.1 hx];omega));have cN:=(r3.ab (k4.trans q6) (by simp)).cell (25+(f.place/8).toNat) (by omega);rw[p.jZ hb] at cN;conv=>whnf
  repeat ((first|(refine Ld.row r7 (by omega) ?_)|(refine Ld.at (by omega) cN ?_)|refine Ix.i ?_|refine Dv.q ?_);conv=>whnf)
  refine⟨fun hg=>?_,fun hg=>?_⟩
  ·have e1:cK (M.take (k+1)) p=cK (M.take k) p++[f]:=by rw[bq,if_pos (show okB p f=true from hg)]
   have e2:(cK (M.take (k+1)) p).length=(cK (M.take k) p).length+1:=by rw[e1];simp
   conv=>whnf
   refine Ru.zu r7 ?_;conv=>whnf
   refine Ru.zv f ?_;intro g2 w7 hg2 hs7 r2 k7;conv=>whnf
   refine Bu.append underlying64 hi lZ lR l4 rfl (by omega) (hlz.aj (q6.trans k7)) _ (Rd.dq r2 (n:=1*6) (by omega)) (by omega) (by simp) (fun j hj=>gS f j hj) (by simp only[maxLen];omega) (by omega) ?_;intro Y cY w8 hy hkp da gZ;conv=>whnf
   repeat (refine Ar.la ?_;conv=>whnf)
   refine⟨(k+1,Y,cY),⟨av,?_,fun x hx=>?_,((k4.trans q6).trans k7).then hkp (fun x hx=>.inr (aek x hx))⟩,⟨rfl,rfl,congrArg (fun n=>Value.slice Y n cY) e2.symm,rfl,rfl,rfl,trivial⟩,by simp only;omega⟩
   ·simp only;rw[e2];refine hy.congr (fun j hj=>?_);rw[e1];exact(uk _ _ _ hj).symm
   ·rcases da with e|e
    ·exact aek x (e ▸ hx)
    ·simp only at hx;rw[e] at hx;obtain rfl:=List.mem_singleton.1 hx;exact Nat.le_trans (Nat.le_trans k4.size q6.size) k7.size
  ·have e1:cK (M.take (k+1)) p=cK (M.take k) p:=by rw[bq,if_neg (by unfold okB;rw[hg];simp),List.append_nil]
   conv=>whnf
   repeat (refine Ar.la ?_;conv=>whnf)
   exact⟨(k+1,Z,cz),⟨av,by simp only;rw[e1];exact hlz.aj q6,aek,k4.trans q6⟩,⟨rfl,rfl,by rw[e1];rfl,rfl,rfl,rfl,trivial⟩,by simp only;omega⟩
 ·obtain rfl:k=M.length:=by omega
  rw[List.take_length] at hlz;have qz:=xN M p;have eg:cK (M.take M.length) p=cK M p:=by rw[List.take_length]
  generalize cK M p=G0 at *;generalize cK (M.take M.length) p=G at *;subst eg;have r3:=r3.ab k4 (by simp);have r4:=r4.ab k4 (by simp);have kk:=kk.trans k4;have aqY:=fun x (hx:x∈aK Z)=>hlz.kR hx;conv=>whnf
  repeat ((first|refine Br.n ?_|refine CW.s ?_);conv=>whnf)
  refine Ru.aE (abg w4) ?_;intro g8 w5 hg8 hs5 r8 k5;have r3:=r3.ab k5 (by simp);have r4:=r4.ab k5 (by simp);have hlz:=hlz.aj k5;have d48:g4≠g8:=by have:=k4.size;omega
  have d38:g3≠g8:=by have:=k4.size;have:=k3.size;have:=k2.size;omega
  have hz8:∀x,x∈aK Z->x∉[g8]:=fun x hx e=>by
   have:=aqY x hx;rw[List.mem_singleton.1 e] at this;omega
  have kk:=kk.trans k5;have hw8:w.heap.size<=g8:=by have:=kk.size;have:=k4.size;have:=k3.size;have:=k2.size;omega
  generalize hV:(fun of:Nat=>placeOf (az G of (lB p of)))=V at *;conv=>whnf
  repeat (refine CW.s ?_;conv=>whnf)
  refine CW.loop (ι:=Nat) (fun i w'=>i<=25/\Row w' g8 59 25 (aei V i)/\Aa [g8] w5 w') (fun i=>[(3,.pointer (some ⟨g3,0,none⟩)),(4,.pointer (some ⟨g4,0,none⟩)),(5,.slice Z G.length cz),(8,.pointer (some ⟨g8,0,none⟩)),(32,.int .i64 i)]) (fun i=>25-i) 0 ai ⟨by omega,r8.congr (fun j _=>rfl),Aa.refl _ _⟩ ⟨rfl,rfl,rfl,rfl,rfl,trivial⟩ ?_;rintro k w6 ⟨hk,r8,k6⟩;have r3:=r3.ab k6 (by simpa using d38);have r4:=r4.ab k6 (by simpa using d48);have hlz:=hlz.ab k6 hz8;by_cases av:k<25
  ·have sr:=r3.cell k (by omega);have hv:V k=placeOf (az G k (lB p k)):=by rw[<-hV]
   conv=>whnf
   refine CW.seq ai ?_;conv=>whnf
   repeat (refine Br.y ?_;conv=>whnf)
   refine CW.seq ai ?_;conv=>whnf
   refine CW.cut (ι:=Unit) (fun _ w'=>w6=w') (fun _=>[(3,.pointer (some ⟨g3,0,none⟩)),(4,.pointer (some ⟨g4,0,none⟩)),(5,.slice Z G.length cz),(8,.pointer (some ⟨g8,0,none⟩)),(9,.int .i64 k),(10,.int .i64 (lB p k)),(32,.int .i64 k)]) ai ?_ ?_
   ·by_cases jo:k<24
    ·rw[p.iy jo] at sr;conv=>whnf
     repeat ((first|(refine Ld.at (by omega) sr ?_)|refine Ix.n ?_|refine Br.y ?_);conv=>whnf)
     exact⟨(),rfl,rfl,rfl,rfl,rfl,rfl,vi (if_pos jo).symm,rfl,trivial⟩
    ·conv=>whnf
     repeat (refine Br.n ?_;conv=>whnf)
     exact⟨(),rfl,rfl,rfl,rfl,rfl,rfl,vi (if_neg jo).symm,rfl,trivial⟩
   rintro _ _ rfl;conv=>whnf
   repeat (refine Ix.n ?_;conv=>whnf)
   refine Sd.rowAt r8 k (by omega) av rfl ?_;intro w7 r8 k7;have hlz:=hlz.ab k7 hz8;conv=>whnf
   refine Ca.of (xE Z cz G k (lB p k) w7 hlz.rd (by omega)) ?_;rintro _ w8 ⟨rfl,k8⟩;have r8:=r8.ab k8 (by simp);generalize az G k (lB p k)=s at *;conv=>whnf
   refine Ru.fN ?_;intro g11 w9 hg11 hs9 r11 k9;have hl8:=r8.lt;have r8:=r8.ab k9 (by simp);conv=>whnf
   refine Ru.uo r11 ?_;intro tP r11 vV;have d11:g11≠g8:=by omega
   have r8:=r8.ab vV (by simpa using d11.symm);have q10:Aa [] w8 tP:=k9.then vV (fun x hx=>.inr (by rw[List.mem_singleton.1 hx];omega));have q6:Aa [g8] w5 tP:=((k6.trans k7).trans (k8.mono (by simp))).trans (q10.mono (by simp));conv=>whnf
   refine⟨fun hh=>?_,fun hh=>?_⟩
   ·conv=>whnf
    repeat ((first|(refine Ld.row r11 (by omega) ?_)|refine Ix.n ?_);conv=>whnf)
    refine Sd.rowAt r8 k (by omega) av rfl ?_;intro zc r8 jJ;rw[alf] at r8;conv=>whnf
    repeat (refine Ar.la ?_;conv=>whnf)
    refine⟨k+1,⟨av,r8.congr (fun j hj=>?_),q6.trans jJ⟩,⟨rfl,rfl,rfl,rfl,rfl,trivial⟩,by simp only;omega⟩;rw[<-xO V k j hj,hv];unfold placeOf;rw[if_pos hh];rfl
   ·conv=>whnf
    repeat (refine Ar.la ?_;conv=>whnf)
    refine⟨k+1,⟨av,r8.congr (fun j hj=>?_),q6⟩,⟨rfl,rfl,rfl,rfl,rfl,trivial⟩,by simp only;omega⟩;rw[<-xO V k j hj,hv];unfold placeOf;rw[if_neg (by rw[hh];simp)]
  ·obtain rfl:k=25:=by omega
   conv=>whnf
   repeat ((first|refine Br.f ?_|refine CW.s ?_);conv=>whnf)
   refine Ru.cx (q:=fun j=>.int .i64 (V j)) r8 underlying59 rfl uL (by omega) (fun j hj=>by rw[Nat.zero_add];exact if_pos hj) ?_;conv=>whnf
   refine Ru.im r4 uL (by omega) (fun j _=>rfl) ?_;intro w7 r4 k7;conv=>whnf
   refine Ru.cx (q:=fun j=>.int .i64 (V j)) r4 underlying59 rfl uL (by omega) (fun j hj=>by unfold lay;rw[if_pos (by omega)];simp) ?_;conv=>whnf
   refine⟨rfl,?_,(kk.then k6 (fun x hx=>.inr (by rw[List.mem_singleton.1 hx];exact hw8))).then k7 (fun x hx=>.inr (by rw[List.mem_singleton.1 hx];omega))⟩;rw[<-hV];rfl
end
section
open Go.RowKit
structure En where
 seq:Int
 copy:Int
 lost:Bool
def En.zero:En:=⟨0,0,false⟩
def En.cell(e:En)(j:Nat):Value:=if j=0 then .int .i64 e.seq else if j=1 then .int .i64 e.copy else .bool e.lost
structure KS where
 st:Nat->Nat
 pn:Nat
 at_:Nat->Nat
 ow:Nat->Nat
 fo:Bool
 fb:Nat
 fi:Nat
 F:Nat->Int
 cur:Nat
 calls:Int
 qu:List Nat
 en:Nat->En
 fl:Nat->Int
 next:Int
 fu:Int
 kh:Int
 dZ:Int
structure Cr where
 k:Nat
 N:Pt
 p:Nat
 a:Nat
 r:Nat
 e:Nat
 q:Nat
def Cr.own(N:Cr):List Nat:=[N.k,N.p,N.a,N.r,N.e,N.q]
def Cr.all(N:Cr):List Nat:=N.own++N.N.l
def ptr(g:Nat):Value:=.pointer (some ⟨g,0,none⟩)
def bZ(N:Cr)(K:KS)(X:Option Addr)(c:Nat)(j:Nat):Value :=
 if j=0 then ptr N.N.m else if j=1 then ptr N.p else if j=2 then ptr N.a else if j=3 then ptr N.r else if j=4 then ptr N.e else if j=5 then ptr N.q
 else if j=6 then .slice X K.qu.length c else if j<82 then (K.en ((j-7)/3)).cell ((j-7)%3) else if j<106 then .int .i64 (K.fl (j-82))
 else if j=106 then .int .i64 K.next else if j=107 then .int .i64 K.fu else if j=108 then .int .i64 K.kh else .int .i64 K.dZ
structure Ad(w:World)(N:Cr)(K:KS)(X:Option Addr)(c:Nat):Prop where
 row:Row w N.k 143 110 (bZ N K X c)
 aV:Aj w N.p K.st K.pn
 map:Ai w N.a K.at_ K.ow
 front:Ah w N.r K.fo K.fb K.fi
 aH:Hl.Hr w N.e K.F
 pat:AG w N.q K.cur K.calls
 qu:Ly w 3 1 X K.qu.length c (qF K.qu)
section
variable{w w':World}{N:Cr}{K:KS}{X:Option Addr}{c:Nat}
theorem Ad.ab{S:List Nat}(h:Ad w N K X c)(k:Aa S w w')(hS:∀x,x∈N.own++aK X->x∉S):Ad w' N K X c :=
 ⟨h.row.ab k (hS _ (by simp[Cr.own])),Row.ab h.aV k (hS _ (by simp[Cr.own])),Row.ab h.map k (hS _ (by simp[Cr.own])),Row.ab h.front k (hS _ (by simp[Cr.own])),Row.ab h.aH k (hS _ (by simp[Cr.own])),Row.ab h.pat k (hS _ (by simp[Cr.own])),h.qu.ab k (fun x hx=>hS x (by simp[hx]))⟩
theorem Ad.aj(h:Ad w N K X c)(k:Aa [] w w'):Ad w' N K X c:=h.ab k (by simp)
theorem Ad.apart(h:Ad w N K X c){x m:Nat}{T:TypeId}{f:Nat->Value}(r:Row w x T m f)(hT:T≠143/\T≠220/\T≠188/\T≠210/\T≠223/\T≠217/\T≠3):x∉N.own++aK X:=by
 have e1:=r.ed h.row hT.1;have e2:=r.ed h.aV hT.2.1;have e3:=r.ed h.map hT.2.2.1;have e4:=r.ed h.front hT.2.2.2.1;have e5:=r.ed h.aH hT.2.2.2.2.1;have e6:=r.ed h.pat hT.2.2.2.2.2.1;have e7:=h.qu.aL r hT.2.2.2.2.2.2.symm;simp[Cr.own,e1,e2,e3,e4,e5,e6,e7]
theorem Ad.lt(h:Ad w N K X c){x:Nat}(hx:x∈N.own++aK X):x<w.heap.size:=by
 rcases List.mem_append.1 hx with hx|hx
 ·simp only[Cr.own,List.mem_cons,List.not_mem_nil,or_false] at hx;rcases hx with rfl|rfl|rfl|rfl|rfl|rfl
  ·exact h.row.lt
  ·exact Row.lt h.aV
  ·exact Row.lt h.map
  ·exact Row.lt h.front
  ·exact Row.lt h.aH
  ·exact Row.lt h.pat
 ·exact h.qu.kR hx
theorem oT{C:Chip}{n:Int}(h:Ad w N K X c)(M:AN w N.N C n){x:Nat}(hx:x∈N.own++aK X):N.N.m≠x/\N.N.c≠x/\N.N.f≠x/\N.N.cd≠x/\N.N.g≠x/\N.N.h≠x:=by
 obtain⟨F,rg⟩:=M.jk.iH.fs.ty;exact⟨fun e=>h.apart M.row (by decide) (e ▸ hx),fun e=>h.apart M.cH (by decide) (e ▸ hx),fun e=>h.apart M.jk.row (by decide) (e ▸ hx),fun e=>h.apart M.jk.iH.row (by decide) (e ▸ hx),fun e=>h.apart rg (by decide) (e ▸ hx),fun e=>h.apart M.jk.iH.gen (by decide) (e ▸ hx)⟩
section
variable(h:Ad w N K X c)
include h
theorem Ad.c0:w.cell? ⟨N.k,0,none⟩=some (.pointer (some ⟨N.N.m,0,none⟩)):=h.row.cell 0 (by omega)
theorem Ad.c1:w.cell? ⟨N.k,1,none⟩=some (.pointer (some ⟨N.p,0,none⟩)):=h.row.cell 1 (by omega)
theorem Ad.c2:w.cell? ⟨N.k,2,none⟩=some (.pointer (some ⟨N.a,0,none⟩)):=h.row.cell 2 (by omega)
theorem Ad.c3:w.cell? ⟨N.k,3,none⟩=some (.pointer (some ⟨N.r,0,none⟩)):=h.row.cell 3 (by omega)
theorem Ad.c4:w.cell? ⟨N.k,4,none⟩=some (.pointer (some ⟨N.e,0,none⟩)):=h.row.cell 4 (by omega)
theorem Ad.c5:w.cell? ⟨N.k,5,none⟩=some (.pointer (some ⟨N.q,0,none⟩)):=h.row.cell 5 (by omega)
theorem Ad.ant:w.cell? ⟨N.k,106,none⟩=some (.int .i64 K.next):=h.row.cell 106 (by omega)
end
structure Dm(N:Cr)(X:Option Addr):Prop where
 kp:N.k≠N.p
 ka:N.k≠N.a
 kr:N.k≠N.r
 ke:N.k≠N.e
 kq:N.k≠N.q
 pa:N.p≠N.a
 pr:N.p≠N.r
 pe:N.p≠N.e
 pq:N.p≠N.q
 ar:N.a≠N.r
 ae:N.a≠N.e
 aq:N.a≠N.q
 re:N.r≠N.e
 rq:N.r≠N.q
 eq:N.e≠N.q
 kX:N.k∉aK X
 pX:N.p∉aK X
 aX:N.a∉aK X
 rX:N.r∉aK X
 eX:N.e∉aK X
 qX:N.q∉aK X
theorem Ad.ne(h:Ad w N K X c):Dm N X :=
 ⟨h.row.ed h.aV (by decide),h.row.ed h.map (by decide),h.row.ed h.front (by decide),h.row.ed h.aH (by decide),h.row.ed h.pat (by decide),
  Row.ed h.aV h.map (by decide),Row.ed h.aV h.front (by decide),Row.ed h.aV h.aH (by decide),Row.ed h.aV h.pat (by decide),
  Row.ed h.map h.front (by decide),Row.ed h.map h.aH (by decide),Row.ed h.map h.pat (by decide),Row.ed h.front h.aH (by decide),Row.ed h.front h.pat (by decide),Row.ed h.aH h.pat (by decide),
  h.qu.aL h.row (by decide),h.qu.aL h.aV (by decide),h.qu.aL h.map (by decide),h.qu.aL h.front (by decide),h.qu.aL h.aH (by decide),h.qu.aL h.pat (by decide)⟩
structure On(w:World)(N:Cr)(K:KS)(P:CS)(b:Option Nat)(n:Int)(X:Option Addr)(c:Nat):Prop where
 core:Ad w N K X c
 o9:MedA w N.N P b n
variable{P:CS}{b:Option Nat}{n:Int}
theorem On.nG{y:Nat}(h:On w N K P b n X c)(k:Aa [y] w w')(hy:y∈N.own++aK X):MedA w' N.N P b n:=by
 obtain⟨C,M,r⟩:=h.o9;have:=oT h.core M hy;exact⟨C,M.ab k (by simpa using this.1) (by simpa using this.2.1) (by simpa using this.2.2.1) (by simpa using this.2.2.2.1) (by simpa using this.2.2.2.2.1) (by simpa using this.2.2.2.2.2),r⟩
theorem On.aj(h:On w N K P b n X c)(k:Aa [] w w'):On w' N K P b n X c:=⟨h.core.aj k,h.o9.aj k⟩
theorem On.aV{st:Nat->Nat}{pn:Nat}(h:On w N K P b n X c)(k:Aa [N.p] w w')(r:Aj w' N.p st pn):On w' N { K with st:=st,pn:=pn } P b n X c:=by
 have d:=h.core.ne;exact⟨⟨h.core.row.ab k (by simpa using d.kp),r,Row.ab h.core.map k (by simpa using d.pa.symm),Row.ab h.core.front k (by simpa using d.pr.symm),Row.ab h.core.aH k (by simpa using d.pe.symm),Row.ab h.core.pat k (by simpa using d.pq.symm),h.core.qu.ab k (fun x hx e=>d.pX (List.mem_singleton.1 e ▸ hx))⟩,h.nG k (by simp[Cr.own])⟩
theorem On.map{at_ ow:Nat->Nat}(h:On w N K P b n X c)(k:Aa [N.a] w w')(r:Ai w' N.a at_ ow):On w' N { K with at_:=at_,ow:=ow } P b n X c:=by
 have d:=h.core.ne;exact⟨⟨h.core.row.ab k (by simpa using d.ka),Row.ab h.core.aV k (by simpa using d.pa),r,Row.ab h.core.front k (by simpa using d.ar.symm),Row.ab h.core.aH k (by simpa using d.ae.symm),Row.ab h.core.pat k (by simpa using d.aq.symm),h.core.qu.ab k (fun x hx e=>d.aX (List.mem_singleton.1 e ▸ hx))⟩,h.nG k (by simp[Cr.own])⟩
theorem On.front{fo:Bool}{fb fi:Nat}(h:On w N K P b n X c)(k:Aa [N.r] w w')(r:Ah w' N.r fo fb fi):On w' N { K with fo:=fo,fb:=fb,fi:=fi } P b n X c:=by
 have d:=h.core.ne;exact⟨⟨h.core.row.ab k (by simpa using d.kr),Row.ab h.core.aV k (by simpa using d.pr),Row.ab h.core.map k (by simpa using d.ar),r,Row.ab h.core.aH k (by simpa using d.re.symm),Row.ab h.core.pat k (by simpa using d.rq.symm),h.core.qu.ab k (fun x hx e=>d.rX (List.mem_singleton.1 e ▸ hx))⟩,h.nG k (by simp[Cr.own])⟩
theorem On.aH{F:Nat->Int}(h:On w N K P b n X c)(k:Aa [N.e] w w')(r:Hl.Hr w' N.e F):On w' N { K with F:=F } P b n X c:=by
 have d:=h.core.ne;exact⟨⟨h.core.row.ab k (by simpa using d.ke),Row.ab h.core.aV k (by simpa using d.pe),Row.ab h.core.map k (by simpa using d.ae),Row.ab h.core.front k (by simpa using d.re),r,Row.ab h.core.pat k (by simpa using d.eq.symm),h.core.qu.ab k (fun x hx e=>d.eX (List.mem_singleton.1 e ▸ hx))⟩,h.nG k (by simp[Cr.own])⟩
theorem On.pat{cur:Nat}{calls:Int}(h:On w N K P b n X c)(k:Aa [N.q] w w')(r:AG w' N.q cur calls):On w' N { K with cur:=cur,calls:=calls } P b n X c:=by
 have d:=h.core.ne;exact⟨⟨h.core.row.ab k (by simpa using d.kq),Row.ab h.core.aV k (by simpa using d.pq),Row.ab h.core.map k (by simpa using d.aq),Row.ab h.core.front k (by simpa using d.rq),Row.ab h.core.aH k (by simpa using d.eq),r,h.core.qu.ab k (fun x hx e=>d.qX (List.mem_singleton.1 e ▸ hx))⟩,h.nG k (by simp[Cr.own])⟩
theorem On.row{K':KS}(h:On w N K P b n X c)(k:Aa [N.k] w w'){G:Nat->Value}(r:Row w' N.k 143 110 G)(hG:∀j,j<110->G j=bZ N K' X c j)(e:K'={ K with en:=K'.en,fl:=K'.fl,next:=K'.next,fu:=K'.fu,kh:=K'.kh,dZ:=K'.dZ }):On w' N K' P b n X c:=by
 have d:=h.core.ne;rw[e];rw[e] at hG;exact⟨⟨r.congr hG,Row.ab h.core.aV k (by simpa using d.kp.symm),Row.ab h.core.map k (by simpa using d.ka.symm),Row.ab h.core.front k (by simpa using d.kr.symm),Row.ab h.core.aH k (by simpa using d.ke.symm),Row.ab h.core.pat k (by simpa using d.kq.symm),h.core.qu.ab k (fun x hx e=>d.kX (List.mem_singleton.1 e ▸ hx))⟩,h.nG k (by simp[Cr.own])⟩
theorem AN.own{C:Chip}(h:Ad w N K X c)(M:AN w N.N C n):∀x,x∈N.own++aK X->x∉N.N.l:=fun x hx hm=>by
 have:=oT h M hx;simp only[Pt.l,List.mem_cons,List.not_mem_nil,or_false] at hm;rcases hm with rfl|rfl|rfl
 ·exact this.1 rfl
 ·exact this.2.1 rfl
 ·exact this.2.2.2.2.1 rfl
theorem On.cH{P':CS}{b':Option Nat}{n':Int}(h:On w N K P b n X c)(k:Aa N.N.l w w')(m:MedA w' N.N P' b' n'):On w' N K P' b' n' X c:=by
 obtain⟨C,M,r⟩:=h.o9;exact⟨h.core.ab k (AN.own h.core M),m⟩
theorem On.bW(h:On w N K P b n X c){x m:Nat}{T:TypeId}{f:Nat->Value}(r:Row w x T m f)(hT:T≠143/\T≠220/\T≠188/\T≠210/\T≠223/\T≠217/\T≠3)
  (hT2:∀y C,AN w N.N C n->(y=N.N.m\/y=N.N.c\/y=N.N.f\/y=N.N.cd\/y=N.N.g\/y=N.N.h)->y≠x) (k:Aa [x] w w'):On w' N K P b n X c:=by
 obtain⟨C,M,q⟩:=h.o9;have ne:=fun y hy=>hT2 y C M hy;exact⟨h.core.ab k (fun y hy hm=>h.core.apart r hT (List.mem_singleton.1 hm ▸ hy)),C,M.ab k (by simpa using ne _ (.inl rfl)) (by simpa using ne _ (.inr (.inl rfl))) (by simpa using ne _ (.inr (.inr (.inl rfl)))) (by simpa using ne _ (.inr (.inr (.inr (.inl rfl))))) (by simpa using ne _ (.inr (.inr (.inr (.inr (.inl rfl)))))) (by simpa using ne _ (.inr (.inr (.inr (.inr (.inr rfl)))))),q⟩
theorem aqZ{C:Chip}{x m:Nat}{T:TypeId}{f:Nat->Value}(r:Row w x T m f)(M:AN w N.N C n)(hT:T≠250/\T≠104/\T≠274/\T≠297/\T≠318/\T≠5):∀y,(y=N.N.m\/y=N.N.c\/y=N.N.f\/y=N.N.cd\/y=N.N.g\/y=N.N.h)->y≠x:=by
 obtain⟨F,rg⟩:=M.jk.iH.fs.ty;rintro y (rfl|rfl|rfl|rfl|rfl|rfl)
 ·exact M.row.ed r hT.1.symm
 ·exact Row.ed M.cH r hT.2.1.symm
 ·exact M.jk.row.ed r hT.2.2.1.symm
 ·exact M.jk.iH.row.ed r hT.2.2.2.1.symm
 ·exact rg.ed r hT.2.2.2.2.1.symm
 ·exact M.jk.iH.gen.ed r hT.2.2.2.2.2.symm
theorem On.iz(h:On w N K P b n X c){x m:Nat}{T:TypeId}{f:Nat->Value}(r:Row w x T m f)(hT:(Nat.beq T 143||Nat.beq T 220||Nat.beq T 188||Nat.beq T 210||Nat.beq T 223||Nat.beq T 217||Nat.beq T 3||Nat.beq T 250||Nat.beq T 104||Nat.beq T 274||Nat.beq T 297||Nat.beq T 318||Nat.beq T 5)=false)(k:Aa [x] w w'):On w' N K P b n X c:=by
 simp only[Bool.or_eq_false_iff] at hT;have q:∀ {a:Nat},Nat.beq T a=false->T≠a:=fun h e=>by subst e;simp at h
 obtain⟨⟨⟨⟨⟨⟨⟨⟨⟨⟨⟨⟨h1,h2⟩,h3⟩,h4⟩,h5⟩,h6⟩,h7⟩,h8⟩,h9⟩,vX⟩,sP⟩,ox⟩,h13⟩:=hT;exact h.bW r ⟨q h1,q h2,q h3,q h4,q h5,q h6,q h7⟩ (fun y C M=>aqZ r M ⟨q h8,q h9,q vX,q sP,q ox,q h13⟩ y) k
theorem On.aij(h:On w N K P b n X c)(k:Aa N.N.l w w'):Ad w' N K X c:=by
 obtain⟨C,M,r⟩:=h.o9;exact h.core.ab k (AN.own h.core M)
end
section
variable{w w':World}{N:Cr}{K:KS}{X:Option Addr}{c:Nat}{P:CS}{b:Option Nat}{n:Int}
def pT(K:KS)(p:Nat):KS:={ K with F:=Hl.qM K.F (p/8) }
theorem iZ(R:AR){dv:Value}(h:AZ w w' R dv)(d:Int):∀j,j<9->(rR R.tagged R.tag R.sound dv d j).oneCell'=true:=fun j hj=>gE (by
 rcases h with⟨-,O,oc,rfl,-⟩|⟨-,rfl⟩<;>rfl) j hj
theorem AZ.ab{w2:World}{S:List Nat}{R:AR}{dv:Value}(h:AZ w w' R dv)(k:Aa S w' w2)(hS:∀x,x∈S->x<w.heap.size):AZ w w2 R dv:=by
 rcases h with⟨h1,O,oc,rfl,h2,h3⟩|h
 ·exact .inl ⟨h1,O,oc,rfl,h2,h3.ab k (fun x hx hm=>by have:=hS x hm;have:=h2 x hx;omega)⟩
 ·exact .inr h
theorem AZ.alg{w2:World}{x m:Nat}{T:TypeId}{f:Nat->Value}{R:AR}{dv:Value}(h:AZ w w' R dv)(r:Row w' x T m f)(hT:T≠5)(k:Aa [x] w' w2):AZ w w2 R dv:=by
 rcases h with⟨h1,O,oc,rfl,h2,h3⟩|h
 ·exact .inl ⟨h1,O,oc,rfl,h2,h3.ab k (fun y hy hm=>h3.aL r hT.symm (List.mem_singleton.1 hm ▸ hy))⟩
 ·exact .inr h
theorem AZ.from{w0:World}{R:AR}{dv:Value}(h:AZ w w' R dv)(hs:w0.heap.size<=w.heap.size):AZ w0 w' R dv:=by
 rcases h with⟨h1,O,oc,rfl,h2,h3⟩|h
 ·exact .inl ⟨h1,O,oc,rfl,fun x hx=>by have:=h2 x hx;omega,h3⟩
 ·exact .inr h
theorem bg{N:Cr}{x:Nat}(h:x∈N.own):x∈N.all:=List.mem_append_left _ h
theorem ja{N:Cr}{x:Nat}(h:x∈N.N.l):x∈N.all:=List.mem_append_right _ h
theorem Aa.ofl{N:Cr}(k:Aa N.N.l w w'):Aa N.all w w':=k.mono fun _ hx=>ja hx
theorem Aa.eh{N:Cr}(k:Aa [] w w'):Aa N.all w w':=k.mono (by simp)
theorem Aa.jl{N:Cr}{y:Nat}(hy:y∈N.own)(k:Aa [y] w w'):Aa N.all w w':=k.mono fun x hx=>by rw[List.mem_singleton.1 hx];exact bg hy
theorem On.ape(h:On w N K P b n X c):N.e<w.heap.size:=Row.lt h.core.aH
theorem On.gn(h:On w N K P b n X c):∀x,x∈N.N.l->x<w.heap.size:=fun x hx=>by
 obtain⟨C,M,r⟩:=h.o9;have:=M.lt;simp only[Pt.l,List.mem_cons,List.not_mem_nil,or_false] at hx;rcases hx with rfl|rfl|rfl<;>omega
theorem kj(h:On w N K P b n X c)(B:Hl.HB K.F){p:Nat}(hp:p<96):Spec Tryz.prog 69 #[.pointer (some ⟨N.k,0,none⟩),.int .i64 p] w fun v w' =>
  ∃R dv,AA P p R/\AZ w w' R dv/\v=.tuple #[agg 9 (rR R.tagged R.tag R.sound dv (R.iU:Nat)),al 0]/\On w' N (pT K p) (P.bC p) b (jI (n+1)) X c/\Aa N.all w w':=by
 have hle:=h.ape;refine spec_of_wpE (T:=tt) ai func69 rfl (by decide +kernel) ntmps69 (by simp) ?_;conv=>whnf
 refine Ru.aE (cr w) ?_;intro x4 w1 qj dj r4 k1;have h1:=h.aj k1;conv=>whnf
 repeat ((refine Ld.of h1.core.c0 ?_);conv=>whnf)
 refine Ca.of (aaZ h1.o9 hp) ?_;rintro _ w2 ⟨k2,R,dv,hR,jn,rfl,M2⟩;have h2:=h1.cH k2 M2;have l8:=r4.ab k2 (fun hx=>by have:=h.gn x4 hx;omega);have hd2:=jn.from (w0:=w) k1.size;have dh:Aa N.all w w2:=(Aa.eh k1).trans (Aa.ofl k2);conv=>whnf
 refine Ru.aE (cr w2) ?_;intro x6 w3 hx6 gg r6 k3;conv=>whnf
 refine Ru.eW r6 (iZ R jn _) ?_;intro w4 vY k4;have q4:Aa [] w2 w4:=k3.then k4 (fun x hx=>.inr (by rw[List.mem_singleton.1 hx,hx6];exact Nat.le_refl _));have h4:=h2.aj q4;have ia:=l8.ab q4 (by simp);have hd4:=hd2.ab q4 (by simp);have bU:Aa N.all w w4:=dh.trans (Aa.eh q4);have vP:w.heap.size<=x4:=by omega
 have h46:x4≠x6:=by have:=l8.lt;omega
 have h6:w.heap.size<=x6:=by have:=dh.size;omega
 clear r4 l8 r6 k3 k4 q4 k1 k2 dj gg jn hd2 dh h2 h1 M2 hx6 qj w1 w2 w3;conv=>whnf
 repeat ((first|(refine Ld.of h4.core.c4 ?_)|refine Br.t ?_|refine Dv.q ?_|refine Ru.bh ?_|refine CW.s ?_);conv=>whnf)
 rw[show((p:Int)/8)=((p/8:Nat):Int) by omega];refine Ca.of (Hl.zA w4 N.e K.F h4.core.aH B (p/8) (by omega)) ?_;rintro _ w5 ⟨rfl,r5,k5⟩;have h5:=h4.aH k5 r5;have ne6:x6≠N.e:=by omega
 have ne4:x4≠N.e:=by omega
 have qI:=vY.ab k5 (by simpa using ne6);have iJ:=ia.ab k5 (by simpa using ne4);have hd5:=hd4.ab k5 (fun x hx=>by rw[List.mem_singleton.1 hx];exact hle);have dL:=bU.trans (Aa.jl (by simp[Cr.own]) k5);conv=>whnf
 refine Ru.ew qI ?_;conv=>whnf
 refine Ru.eW iJ (iZ R hd5 _) ?_;intro w6 nT k6;have h6':=h5.iz iJ (by decide) k6;have hd6:AZ w w6 R dv:=hd5.alg iJ (by decide) k6;conv=>whnf
 refine Ru.ew nT ?_;conv=>whnf
 exact⟨rfl,R,dv,hR,hd6,rfl,h6',dL.then k6 (fun x hx=>by rw[List.mem_singleton.1 hx];exact .inr vP)⟩
end
section
variable{w w':World}{N:Cr}{K:KS}{X:Option Addr}{c:Nat}{P:CS}{b:Option Nat}{n:Int}
theorem aik(n:Int):jI (jI (n+1)-n)=1:=by
 unfold jI;simp[IntKind.wrap,IntKind.signed,IntKind.bits];omega
theorem abi(n:Int):jI (n-n)=0:=by
 rw[Int.sub_self];rfl
def Ends(N:Cr)(X:Option Addr)(K:KS)(P:CS)(b:Option Nat)(tr:List CS)(w:World)(w':World)(ok dead:Prop):Prop :=
 Aa (N.all++aK X) w w'/\Af b tr (fun b'=>ok/\∃Y d n',On w' N K P b' n' Y d/\∀x,x∈aK Y->x∈aK X\/w.heap.size<=x) (fun Q=>dead/\∃n',AW w' N.N Q n')
def AD(N:Cr)(X:Option Addr)(c:Nat)(K:KS)(P:CS)(b:Option Nat)(tr:List CS)(w:World)(w':World)(ok dead:Prop):Prop :=
 Aa N.all w w'/\Af b tr (fun b'=>ok/\∃n',On w' N K P b' n' X c) (fun Q=>dead/\∃n',AW w' N.N Q n')
def pgK(K:KS)(p:Nat)(e:Int):KS:=if e=0 then pT K p else K
theorem rT(h:On w N K P b n X c)(B:Hl.HB K.F){p d:Nat}{A:Option Addr}{D:Nat->Nat}{t:Tg}(hp:p<96)(hD:∀j,D j<256)(hl:Ly w 5 1 A 174 d (fun j=>.int .u8 (D j:Nat)))(ht:t.ok)(qH:t.place=p) :
  Spec Tryz.prog 109 #[.pointer (some ⟨N.k,0,none⟩),.agg t.arr,.slice A 174 d] w fun v w' =>
   AD N X c (pgK K p (P.vW p t D).2.1) (P.vW p t D).1 b (P.vW p t D).2.2 w w' (v=al (P.vW p t D).2.1) (v=al 7):=by
 have hle:=h.ape;have e0:t.cell 0=.int .i64 (p:Nat):=by
  show Value.int .i64 t.place=_;rw[qH]
 refine spec_of_wpE (T:=tt) ai func109 rfl (by decide +kernel) ntmps109 (by simp) ?_;conv=>whnf
 refine Ru.xy ?_;intro x4 w1 qj dj r4 k1;have h1:=h.aj k1;have l1:=hl.aj k1;conv=>whnf
 repeat ((refine Ld.of h1.core.c0 ?_);conv=>whnf)
 refine Ca.of (qJ h1.o9) ?_;rintro _ _ ⟨rfl,rfl⟩;conv=>whnf
 refine CW.held (fun w'=>Ad w' N K X c/\Row w' x4 67 5 t.cell) [] (.take 0 (.take 1 (.take 2 (.take 3 (.take 4 (.take 5 (.take 6 (.take 7 (.one 8 (.take 9 (.done))))))))))) ai (by kernel_rfl) (by kernel_rfl) (by kernel_rfl) ?_ ?_
 ·exact⟨h1.core.aj ((Aa.refl _ _).drewN 1),Row.drewN r4 1⟩
 have q1:=(Aa.refl [] w1).drewN 1;have h2:=h1.aj q1;have l2:=l1.aj q1;have r2:=r4.ab q1 (by simp);have k2:Aa [] w (w1.drewN 1):=k1.trans q1;clear h1 l1 r4 k1 q1;generalize w1.drewN 1=w2 at *;conv=>whnf
 repeat ((first|(refine Ag.of (fun _ h=>h.1.c0) ?_)|(refine Ag.at (j:=0) (by omega) (fun _ h=>(Row.cell h.2 0 (by omega)).trans (congrArg some e0)) ?_)|(refine Am.fG (fun _ h=>h.2) ?_));conv=>whnf)
 refine Ca.of (akW h2.o9 (A:=A) (dd:=d) hp hD l2.th hl.1 (fun x hx=>?_) ht qH) ?_
 ·obtain⟨C,M,q⟩:=h2.o9;obtain⟨F,rg⟩:=M.jk.iH.fs.ty;have hx:x.block∈aK A:=by rw[hx];exact List.mem_singleton.2 rfl
  exact⟨fun e=>l2.aL M.row (by decide) (e ▸ hx),fun e=>l2.aL M.cH (by decide) (e ▸ hx),fun e=>l2.aL rg (by decide) (e ▸ hx)⟩
 rintro _ w3 ⟨k3,hr⟩;have c3:=h2.aij k3;have r3:=r2.ab k3 (fun hx=>by have:=h.gn x4 hx;omega);have bG:Aa N.all w w3:=(Aa.eh k2).trans (Aa.ofl k3);have nV:w.heap.size<=x4:=by omega
 clear l2 r2 k2 qj dj;generalize P.vW p t D=Z at *;obtain⟨Q,e,tr⟩:=Z;rcases hr with⟨hf,rfl,M3⟩|⟨x,hx,hb,rfl,M3⟩
 ·have h3:On w3 N K Q (less b tr.length) (one e n) X c:=⟨c3,M3⟩;by_cases he:e=0
  ·subst he;conv=>whnf
   refine⟨⟨c3,r3⟩,?_⟩;conv=>whnf
   repeat ((first|(refine Ld.of c3.c0 ?_)|refine CW.s ?_);conv=>whnf)
   refine Ca.of (qJ M3) ?_;rintro _ _ ⟨rfl,rfl⟩;conv=>whnf
   repeat ((refine Ar.tB ?_);conv=>whnf)
   rw[show jI (one 0 n-n)=1 from aik n];refine CW.loop (ι:=Nat) (fun i w'=>i<=1/\On w' N (if i=0 then K else pT K p) Q (less b tr.length) (one 0 n) X c/\Row w' x4 67 5 t.cell/\Aa N.all w w') (fun i=>[(0,.pointer (some ⟨N.k,0,none⟩)),(4,.pointer (some ⟨x4,0,none⟩)),(8,al 0),(29,.int .i64 1),(30,.int .i64 i)]) (fun i=>1-i) 0 ai ⟨by omega,h3,r3,bG⟩ ⟨rfl,rfl,rfl,rfl,rfl,trivial⟩ ?_;rintro i wr ⟨hi,hr,rr,kr⟩;by_cases av:i<1
   ·obtain rfl:i=0:=by omega
    rw[if_pos rfl] at hr;conv=>whnf
    repeat ((first|refine Br.t ?_|refine CW.s ?_);conv=>whnf)
    refine CW.held (fun w'=>w'.cell? ⟨N.k,4,none⟩=some (.pointer (some ⟨N.e,0,none⟩))/\Row w' x4 67 5 t.cell) [] (.take 0 (.take 1 (.take 2 (.take 3 (.take 4 (.take 5 (.take 6 (.one 7 (.done))))))))) ai (by kernel_rfl) (by kernel_rfl) (by kernel_rfl) ?_ ?_
    ·exact⟨hr.core.c4,Row.drewN rr 1⟩
    have q1:=(Aa.refl [] wr).drewN 1;have sQ:=hr.aj q1;have rr2:=rr.ab q1 (by simp);have kr2:Aa N.all w (wr.drewN 1):=kr.trans (Aa.eh q1);clear hr rr kr q1;generalize wr.drewN 1=w4 at *;conv=>whnf
    repeat ((first|(refine Ag.of (fun _ h=>h.1) ?_)|(refine Ag.at (j:=0) (by omega) (fun _ h=>(Row.cell h.2 0 (by omega)).trans (congrArg some e0)) ?_)|refine Dv.q ?_);conv=>whnf)
    rw[show((p:Int)/8)=((p/8:Nat):Int) by omega];refine Ca.of (Hl.zA w4 N.e K.F sQ.core.aH B (p/8) (by omega)) ?_;rintro _ w5 ⟨rfl,r5,k5⟩;have h5:=sQ.aH k5 r5;have rr5:=rr2.ab k5 (by simp;omega);conv=>whnf
    refine⟨⟨h5.core.c4,rr5⟩,?_⟩;conv=>whnf
    repeat (refine Ar.la ?_;conv=>whnf)
    exact⟨1,⟨by omega,h5,rr5,kr2.trans (Aa.jl (by simp[Cr.own]) k5)⟩,⟨rfl,rfl,rfl,rfl,vi (by omega),trivial⟩,by simp only;omega⟩
   ·obtain rfl:i=1:=by omega
    rw[if_neg (by omega)] at hr;conv=>whnf
    repeat ((first|refine Br.f ?_|refine CW.s ?_);conv=>whnf)
    exact⟨rfl,kr,.inl ⟨hf,rfl,_,hr⟩⟩
  ·have ho:one e n=n:=if_neg he;rw[ho] at h3 M3;conv=>whnf
   refine⟨⟨c3,r3⟩,?_⟩;conv=>whnf
   repeat ((first|(refine Ld.of c3.c0 ?_)|refine CW.s ?_);conv=>whnf)
   refine Ca.of (qJ M3) ?_;rintro _ _ ⟨rfl,rfl⟩;conv=>whnf
   repeat ((refine Ar.tB ?_);conv=>whnf)
   rw[abi];refine CW.loop (ι:=Nat) (fun i w'=>w'=w3) (fun i=>[(8,al e),(29,.int .i64 0),(30,.int .i64 0)]) (fun i=>0) 0 ai rfl ⟨rfl,rfl,rfl,trivial⟩ ?_;rintro i wr rfl;conv=>whnf
   repeat ((first|refine Br.f ?_|refine CW.s ?_);conv=>whnf)
   refine⟨rfl,bG,.inl ⟨hf,rfl,n,?_⟩⟩;unfold pgK;rw[if_neg he];exact h3
 ·conv=>whnf
  refine⟨⟨c3,r3⟩,?_⟩;conv=>whnf
  repeat ((first|(refine Ld.of c3.c0 ?_)|refine CW.s ?_);conv=>whnf)
  refine Ca.of (aft M3) ?_;rintro _ _ ⟨rfl,rfl⟩;conv=>whnf
  repeat ((refine Ar.tB ?_);conv=>whnf)
  rw[abi];refine CW.loop (ι:=Nat) (fun i w'=>w'=w3) (fun i=>[(8,al 7),(29,.int .i64 0),(30,.int .i64 0)]) (fun i=>0) 0 ai rfl ⟨rfl,rfl,rfl,trivial⟩ ?_;rintro i wr rfl;conv=>whnf
  repeat ((first|refine Br.f ?_|refine CW.s ?_);conv=>whnf)
  exact⟨rfl,bG,.inr ⟨x,hx,hb,rfl,n,M3⟩⟩
end
section
variable{w w':World}{N:Cr}{K:KS}{X:Option Addr}{c:Nat}{P:CS}{b:Option Nat}{n:Int}
theorem ac5(x:Int)(j:Nat)(hj:j<110):put (bZ N K X c) 106 (.int .i64 x) j=bZ N { K with next:=x } X c j:=by
 unfold put;by_cases h:j=106
 ·subst h;rfl
 ·rw[if_neg h];unfold bZ;simp only[if_neg h]
def bJ(K:KS):KS:={ K with next:=K.next+1 }
theorem sR(h:On w N K P b n X c)(hn:0<=K.next/\K.next<1099511627775):Spec Tryz.prog 107 #[.pointer (some ⟨N.k,0,none⟩)] w fun v w'=>v=.tuple #[.int .i64 K.next,al 0]/\On w' N (bJ K) P b n X c/\Aa N.all w w':=by
 refine spec_of_wpE (T:=tt) ai func107 rfl (by decide +kernel) ntmps107 (by simp) ?_;conv=>whnf
 repeat ((first|(refine Ld.of h.core.ant ?_)|refine Ar.la ?_|refine Br.n ?_|refine CW.s ?_);conv=>whnf)
 refine Sd.rowAt h.core.row 106 (by omega) (by omega) rfl ?_;intro w2 r2 k2;have h2:On w2 N (bJ K) P b n X c:=h.row k2 r2 (fun j hj=>ac5 (K.next+1) j hj) rfl;have c2:w2.cell? ⟨N.k,106,none⟩=some (.int .i64 (K.next+1)):=h2.core.ant;conv=>whnf
 repeat ((first|(refine Ld.of c2 ?_)|refine Ar.la ?_);conv=>whnf)
 refine⟨rfl,?_,h2,Aa.jl (by simp[Cr.own]) k2⟩;show Value.tuple #[.int .i64 (K.next+1-1),al 0]=_;rw[Int.add_sub_cancel]
theorem jb(h:On w N K P b n X c):Spec Tryz.prog 90 #[.pointer (some ⟨N.p,0,none⟩)] w fun v w'=>∃Y e,v=.slice Y 12 e/\Hl.Ck w w' Y 12 e (fun j=>(K.st j:Nat)):=by
 refine spec_of_wpE (T:=tt) ai func90 rfl (by decide +kernel) ntmps90 (by simp) ?_;conv=>whnf
 refine Ru.jO (sz:=1) underlying70 (by kernel_rfl) ?_;conv=>whnf
 refine Ca.of (Hl.jQ ⟨N.p,0+0,none⟩ 12 12 (fun j=>(K.st j:Nat)) w (fun _=>⟨N.p,0,rfl,fun j hj=>by rw[Nat.zero_add];exact Aj.cst h.core.aV hj⟩) (by omega) (by omega)) ?_;rintro _ w2 ⟨Y,e,rfl,O⟩;conv=>whnf
 exact⟨rfl,Y,e,rfl,O⟩
theorem En.bj(e:En){j:Nat}:(e.cell j).oneCell'=true:=by
 unfold En.cell;split
 ·rfl
 ·split<;>rfl
theorem uM(o:Nat)(ho:o<=24)(e:En)(j:Nat)(hj:j<110):lay (bZ N K X c) (7+3*o) 3 e.cell j=bZ N { K with en:=ah K.en o e } X c j:=by
 unfold lay;by_cases h:7+3*o<=j/\j<7+3*o+3
 ·rw[if_pos h];unfold bZ;simp only;rw[if_neg (by omega),if_neg (by omega),if_neg (by omega),if_neg (by omega),if_neg (by omega),if_neg (by omega),if_neg (by omega),if_pos (by omega),show(j-7)/3=o by omega];unfold ah;rw[if_pos rfl,show(j-7)%3=j-(7+3*o) by omega]
 ·rw[if_neg h];unfold bZ;simp only;by_cases h7:7<=j/\j<82
  ·have:(j-7)/3≠o:=by omega
   unfold ah;rw[if_neg this]
  ·by_cases h8:j<82
   ·have e0:j=0\/j=1\/j=2\/j=3\/j=4\/j=5\/j=6:=by omega
    rcases e0 with rfl|rfl|rfl|rfl|rfl|rfl|rfl<;>rfl
   ·simp only[if_neg h8]
theorem dK:(Tryz.prog.info? 140).map (·.size)=some 3:=by kernel_rfl
theorem abj(s k:Int)(l:Bool)(w:World):(Instr.build 140 #[(0,.int .i64 s),(1,.int .i64 k),(2,.bool l)]).run Tryz.prog w=.ok (.agg #[.int .i64 s,.int .i64 k,.bool l]) w:=by kernel_rfl
theorem ail(e:En):Value.agg #[.int .i64 e.seq,.int .i64 e.copy,.bool e.lost]=agg 3 e.cell:=by
 unfold agg;simp[Array.range,Array.ofFn_succ,En.cell]
def stK(K:KS)(t:Tg)(o p:Nat):KS:={ K with at_:=(setAt K.at_ K.ow o p).1,ow:=(setAt K.at_ K.ow o p).2,en:=ah K.en o ⟨t.seq,t.copy,t.lost⟩ }
theorem xP(h:On w N K P b n X c)(W:AL K.at_ K.ow){t:Tg}{o p:Nat}(ho:o<=24)(hp:p<96)(wF:t.of=o)(htp:t.place=p) :
  Spec Tryz.prog 160 #[.pointer (some ⟨N.k,0,none⟩),.agg t.arr] w fun v w'=>v=.tuple #[]/\On w' N (stK K t o p) P b n X c/\Aa N.all w w':=by
 have e0:t.cell 0=.int .i64 (p:Nat):=by
  show Value.int .i64 t.place=_;rw[htp]
 have e1:t.cell 1=.int .i64 (o:Nat):=by
  show Value.int .i64 t.of=_;rw[wF]
 refine spec_of_wpE (T:=tt) ai func160 rfl (by decide +kernel) ntmps160 (by simp) ?_;conv=>whnf
 refine Ru.xy ?_;intro x3 w1 hx3 dj r3 k1;have h1:=h.aj k1;conv=>whnf
 refine CW.held (fun w'=>w'.cell? ⟨N.k,2,none⟩=some (.pointer (some ⟨N.a,0,none⟩))/\Row w' x3 67 5 t.cell) [] (.take 0 (.take 1 (.take 2 (.take 3 (.take 4 (.take 5 (.take 6 (.take 7 (.one 8 (.done)))))))))) ai (by kernel_rfl) (by kernel_rfl) (by kernel_rfl) ?_ ?_
 ·exact⟨h1.core.c2,Row.drewN r3 1⟩
 have q1:=(Aa.refl [] w1).drewN 1;have h2:=h1.aj q1;have r2:=r3.ab q1 (by simp);have kk:Aa N.all w (w1.drewN 1):=(Aa.eh k1).trans (Aa.eh q1);clear h1 r3 k1 q1;generalize w1.drewN 1=w2 at *;have hx:N.a≠x3:=by have:=Row.lt h.core.map;omega
 have hk:N.k≠x3:=by have:=Row.lt h.core.row;omega
 clear hx3 dj w1;conv=>whnf
 repeat ((first|(refine Ag.of (fun _ h=>h.1) ?_)|(refine Ag.at (j:=0) (by omega) (fun _ h=>(Row.cell h.2 0 (by omega)).trans (congrArg some e0)) ?_)|(refine Ag.at (j:=1) (by omega) (fun _ h=>(Row.cell h.2 1 (by omega)).trans (congrArg some e1)) ?_));conv=>whnf)
 refine Ca.of (zz h2.core.map W o p ho hp) ?_;rintro _ w3 ⟨rfl,m3,k3⟩;have h3:=h2.map k3 m3;have xQ:=r2.ab k3 (by simpa using hx.symm);have bG:=kk.trans (Aa.jl (by simp[Cr.own]) k3);clear h2 r2 kk k3 m3 w2;refine⟨⟨h3.core.c2,xQ⟩,?_⟩;conv=>whnf
 refine CW.held (fun w'=>Row w' x3 67 5 t.cell) [] (.take 0 (.take 1 (.take 2 (.take 3 (.take 4 (.take 5 (.take 6 (.take 7 (.take 8 (.take 9 (.take 10 (.take 11 (.take 12 (.one 13 (.done))))))))))))))) ai (by kernel_rfl) (by kernel_rfl) (by kernel_rfl) ?_ ?_
 ·exact Row.drewN xQ 1
 have q1:=(Aa.refl [] w3).drewN 1;have h4:=h3.aj q1;have r4:=xQ.ab q1 (by simp);have bU:Aa N.all w (w3.drewN 1):=bG.trans (Aa.eh q1);clear h3 xQ bG q1;generalize w3.drewN 1=w4 at *;conv=>whnf
 repeat ((first|(refine Ag.at (j:=1) (by omega) (fun _ h=>(Row.cell h 1 (by omega)).trans (congrArg some e1)) ?_)|(refine Ag.at (j:=2) (by omega) (fun _ h=>(Row.cell h 2 (by omega))) ?_)|(refine Ag.at (j:=3) (by omega) (fun _ h=>(Row.cell h 3 (by omega))) ?_)|(refine Ag.at (j:=4) (by omega) (fun _ h=>(Row.cell h 4 (by omega))) ?_)|(refine Am.of (v:=agg 3 (En.cell ⟨t.seq,t.copy,t.lost⟩)) (fun w _=>(abj t.seq t.copy t.lost w).trans (by rw[<-ail])) ?_)|(refine Ix.of o (by omega) (by omega) ?_));conv=>whnf)
 rw[show 0+7+o*3=7+3*o by omega];refine Ru.im h4.core.row dK (by omega) (fun j _=>En.bj _) ?_;intro w5 r5 k5;have h5:On w5 N (stK K t o p) P b n X c:=h4.row (K':=stK K t o p) k5 r5 (fun j hj=>uM o ho ⟨t.seq,t.copy,t.lost⟩ j hj) rfl;refine⟨r4.ab k5 (by simpa using hk.symm),?_⟩;conv=>whnf
 exact⟨rfl,rfl,h5,bU.trans (Aa.jl (by simp[Cr.own]) k5)⟩
def anK(K:KS)(t:Tg)(o p:Nat):KS:=if o=24 then { stK K t o p with F:=Hl.ntF K.F,calls:=0 } else stK K t o p
theorem sS(h:On w N K P b n X c)(W:AL K.at_ K.ow){t:Tg}{o p:Nat}(ho:o<=24)(hp:p<96)(wF:t.of=o)(htp:t.place=p) :
  Spec Tryz.prog 110 #[.pointer (some ⟨N.k,0,none⟩),.agg t.arr] w fun v w'=>v=.tuple #[]/\On w' N (anK K t o p) P b n X c/\Aa N.all w w':=by
 have e1:t.cell 1=.int .i64 (o:Nat):=by
  show Value.int .i64 t.of=_;rw[wF]
 refine spec_of_wpE (T:=tt) ai func110 rfl (by decide +kernel) ntmps110 (by simp) ?_;conv=>whnf
 refine Ru.xy ?_;intro x3 w1 hx3 dj r3 k1;have h1:=h.aj k1;conv=>whnf
 refine Ru.fG r3 ?_;conv=>whnf
 refine Ca.of (xP h1 W ho hp wF htp) ?_;rintro _ w2 ⟨rfl,h2,k2⟩;have hx:x3∉N.all:=fun hm=>by
  have:x3<w.heap.size:=by
   rcases List.mem_append.1 hm with hm|hm
   ·exact h.core.lt (List.mem_append_left _ hm)
   ·exact h.gn _ hm
  omega
 have r2:=r3.ab k2 hx;have kk:Aa N.all w w2:=(Aa.eh k1).trans k2;have c1:w2.cell? ⟨x3,1,none⟩=some (.int .i64 (o:Nat)):=(Row.cell r2 1 (by omega)).trans (congrArg some e1);unfold anK;by_cases jo:o=24
 ·rw[if_pos jo];subst jo;conv=>whnf
  repeat ((first|(refine Ld.of c1 ?_)|(refine Ld.of h2.core.c4 ?_)|refine Br.t ?_);conv=>whnf)
  refine Ca.of (Hl.ahZ w2 N.e _ h2.core.aH) ?_;rintro _ w3 ⟨rfl,r3',k3⟩;have h3:=h2.aH k3 r3';conv=>whnf
  repeat ((refine Ld.of h3.core.c5 ?_);conv=>whnf)
  refine Ca.of (afL h3.core.pat) ?_;rintro _ w4 ⟨rfl,r4,k4⟩;have h4:=h3.pat k4 r4;conv=>whnf
  exact⟨rfl,rfl,h4,(kk.trans (Aa.jl (by simp[Cr.own]) k3)).trans (Aa.jl (by simp[Cr.own]) k4)⟩
 ·rw[if_neg jo];conv=>whnf
  repeat ((first|(refine Ld.of c1 ?_)|refine Br.n ?_);conv=>whnf)
  exact⟨rfl,rfl,h2,kk⟩
def aT(K:KS):KS:=if K.fo then { K with st:=aD K.st K.fb 2,fo:=false,fb:=0,fi:=0 } else K
theorem lC(h:On w N K P b n X c)(hb:K.fb<12):Spec Tryz.prog 145 #[.pointer (some ⟨N.k,0,none⟩)] w fun v w'=>v=.tuple #[]/\On w' N (aT K) P b n X c/\Aa N.all w w':=by
 refine spec_of_wpE (T:=tt) ai func145 rfl (by decide +kernel) ntmps145 (by simp) ?_;conv=>whnf
 repeat ((refine Ld.of h.core.c3 ?_);conv=>whnf)
 refine Ca.of (kg h.core.front) ?_;rintro _ _ ⟨rfl,rfl⟩;unfold aT
 cases fR:K.fo with
 | true =>
  rw[if_pos rfl,if_pos rfl];conv=>whnf
  repeat ((first|(refine Ld.of h.core.c1 ?_)|refine Br.t ?_);conv=>whnf)
  refine Ca.of (eO h.core.aV K.fb 2 hb (by omega)) ?_;rintro _ w2 ⟨⟨e,rfl⟩,r2,k2⟩;have h2:=h.aV k2 r2;conv=>whnf
  repeat ((refine Ld.of h2.core.c3 ?_);conv=>whnf)
  refine Ca.of (xK h2.core.front) ?_;rintro _ w3 ⟨rfl,r3,k3⟩;have h3:=h2.front k3 r3;conv=>whnf
  exact⟨rfl,rfl,h3,(Aa.jl (by simp[Cr.own]) k2).trans (Aa.jl (by simp[Cr.own]) k3)⟩
 | false =>
  rw[if_neg (by simp),if_neg (by simp)];conv=>whnf
  repeat (refine Br.f ?_;conv=>whnf)
  exact⟨rfl,rfl,h,Aa.refl _ _⟩
end
section
variable{w w':World}{N:Cr}{K:KS}{X:Option Addr}{c:Nat}{P:CS}{b:Option Nat}{n:Int}
def iA(K:KS)(s also:Int):Cp:=⟨K.fl,s,fun b=>decide (K.st b=3)||decide ((b:Int)=also),K.cur,K.F,fun j=>K.F (12+j)⟩
def aim(f:Nat->Value)(s q:Int)(j:Nat):Value:=cond (Nat.blt j 24) (f j) (cond (Nat.beq j 24) (.int .i64 s) (cond (Nat.blt j 37) (.bool false) (cond (Nat.beq j 37) (.int .i64 q) (.int .i64 0))))
theorem uN(f:Nat->Value)(s q:Int)(w:World):(Instr.build 116 #[(0,agg 24 f),(1,.int .i64 s),(3,.int .i64 q)]).run Tryz.prog w=.ok (.agg ((Array.range 62).map (aim f s q))) w:=by kernel_rfl
theorem abk{j:Nat}(h:j<24):bZ N K X c (82+j)=.int .i64 (K.fl j):=by
 unfold bZ;rw[if_neg (by omega),if_neg (by omega),if_neg (by omega),if_neg (by omega),if_neg (by omega),if_neg (by omega),if_neg (by omega),if_neg (by omega),if_pos (by omega),show 82+j-82=j by omega]
theorem km(x o:Nat)(w:World):(Instr.sliceAt 70 (.pointer (some ⟨x,0+o,none⟩)) none none none).run Tryz.prog w=.ok (.slice (some ⟨x,o,none⟩) 12 12) w:=by
 rw[Nat.zero_add];obtain⟨v,w',h1,h2,h3⟩:=Ru.jO (P:=Tryz.prog) (w:=w) (g:=x) (o:=o) (sz:=1) (K:=fun v w'=>v=.slice (some ⟨x,o,none⟩) 12 12/\w'=w) underlying70 (by kernel_rfl) ⟨rfl,rfl⟩;rw[h1,h2,h3]
theorem ain{f:Nat->Int}{s q:Int}(j:Nat):(aim (fun j=>.int .i64 (f j)) s q j).oneCell'=true:=by
 unfold aim
 cases Nat.blt j 24<;>cases Nat.beq j 24<;>cases Nat.blt j 37<;>cases Nat.beq j 37<;>rfl
def scF(K:KS)(s also:Int)(k j:Nat):Value :=
 if j<25 then (iA K s also).cell j else if j<25+k then (iA K s also).cell j else if j<37 then .bool false else if j=37 then .int .i64 K.cur else .int .i64 0
theorem aio{K:KS}{s also:Int}(j:Nat)(hj:j<62):lay Cp.zero.cell 0 62 (aim (fun j=>.int .i64 (K.fl j)) s K.cur) j=scF K s also 0 j:=by
 unfold lay;rw[if_pos (by omega),Nat.sub_zero];unfold aim scF;rw[dz (iw _ _),dz (kU _ _),dz (iw _ _),dz (kU _ _)];by_cases h:j<24
 ·rw[if_pos h,if_pos (by omega),(iA K s also).iy h];rfl
 ·rw[if_neg h];by_cases h2:j=24
  ·subst h2;rfl
  ·rw[if_neg h2,if_neg (show ¬j<25 by omega),if_neg (show ¬j<25+0 by omega)]
theorem ael{K:KS}{s also:Int}(k:Nat)(hk:k<12)(j:Nat):put (scF K s also k) (25+k) (.bool (decide (K.st k=3)||decide ((k:Int)=also))) j=scF K s also (k+1) j:=by
 unfold put;by_cases h:j=25+k
 ·subst h;unfold scF;rw[if_pos rfl,if_neg (by omega),if_pos (by omega),(iA K s also).jZ hk];rfl
 ·rw[if_neg h];unfold scF;by_cases h1:j<25
  ·rw[if_pos h1,if_pos h1]
  ·rw[if_neg h1,if_neg h1];by_cases h2:j<25+k
   ·rw[if_pos h2,if_pos (by omega)]
   ·have h5:¬j<25+(k+1):=by omega
    rw[if_neg h2,if_neg h5]
theorem alh{K:KS}{s also:Int}(j:Nat)(hj:j<62):lay (lay (scF K s also 12) 38 12 (fun j=>.int .i64 (K.F j))) 50 12 (fun j=>.int .i64 (K.F (12+j))) j=(iA K s also).cell j:=by
 unfold lay;by_cases h:50<=j
 ·rw[if_pos (by omega)];have e:j=50+(j-50):=by omega
  rw[e,(iA K s also).nB (by omega),show 50+(j-50)-50=j-50 by omega];rfl
 ·rw[if_neg (by omega)];by_cases h2:38<=j
  ·rw[if_pos (by omega)];have e:j=38+(j-38):=by omega
   rw[e,(iA K s also).nA (by omega),show 38+(j-38)-38=j-38 by omega];rfl
  ·rw[if_neg (by omega)];unfold scF;by_cases h3:j<25
   ·rw[if_pos h3]
   ·rw[if_neg h3];by_cases h4:j<37
    ·rw[if_pos (by omega)]
    ·rw[if_neg (by omega),if_neg h4,if_pos (by omega),show j=37 by omega];rfl
theorem nH(h:On w N K P b n X c)(s also:Int):Spec Tryz.prog 65 #[.pointer (some ⟨N.k,0,none⟩),.int .i64 s,.int .i64 also] w fun v w'=>v=agg 62 (iA K s also).cell/\Aa [] w w':=by
 refine spec_of_wpE (T:=tt) ai func65 rfl (by decide +kernel) ntmps65 (by simp) ?_;conv=>whnf
 refine Ru.aE (eD w) ?_;intro x6 w1 hx6 dj r6 k1;have h1:=h.aj k1;conv=>whnf
 refine CW.held (fun w'=>Ad w' N K X c) [12] (.take 0 (.take 1 (.take 2 (.take 3 (.take 4 (.take 5 (.take 6 (.take 7 (.take 8 (.two 9 (.take 10 (.one 11 (.one 12 (.done)))) 11 (.one 9 (.take 10 (.one 12 (.done)))))))))))))) ai (by kernel_rfl) (by kernel_rfl) (by kernel_rfl) ?_ ?_
 ·exact h1.core.aj ((Aa.refl _ _).drewN 1)
 have q1:=(Aa.refl [] w1).drewN 1;have h2:=h1.aj q1;have zo:=r6.ab q1 (by simp);have k2:Aa [] w (w1.drewN 1):=k1.trans q1;clear h1 r6 k1 q1;have gO:(w1.drewN 1).heap.size=w1.heap.size:=rfl;generalize w1.drewN 1=w2 at *;conv=>whnf
 repeat' ((first|(refine And.intro ?_ ?_)|(refine Ag.of (fun _ h=>h.c5) ?_)|(refine Am.of (v:=agg 24 (fun j=>.int .i64 (K.fl j))) (fun w h=>ei h.row underlying114 rfl gm (by omega) (fun j hj=>by rw[show 0+82+j=82+j by omega];exact abk hj)) ?_)|(refine Am.of (fun w _=>uN _ _ _ w) ?_)|refine HS.t ?_|refine Br.t ?_|refine Br.f ?_|refine Pk.f ?_|refine Pk.t ?_|refine Pk.and ?_|refine Pk.or ?_|refine Ix.n ?_|refine Ix.of _ (by rfl) (by omega) ?_|refine Ix.i ?_|refine Ar.la ?_|refine Ar.lb ?_|refine Ar.lc ?_|refine Dv.q ?_|refine Dv.r ?_|refine Br.y ?_|refine Br.n ?_|refine Br.ny ?_|refine Br.nn ?_|refine Br.is (by assumption) ?_|refine Br.jB (by assumption) ?_|refine Ld.of (by assumption) ?_|refine Ru.ak ?_|refine Ru.n1 ?_|refine Ru.bh ?_|refine Ru.e1 ?_|refine Ru.e2 ?_|refine Ru.e3 ?_|refine Ru.n2 ?_|refine Ru.n3 ?_|refine Ru.js rfl ?_|refine Ru.pj rfl ?_|refine Ru.aem rfl (by decide) ?_|refine Ru.kT rfl (by decide) ?_|refine Ru.be ?_|refine Ru.bn ?_|refine Am.be ?_|refine Am.bn ?_|refine CW.s ?_|refine Br.d (fun _=>?_) (fun _=>?_)|refine Br.nd (fun _=>?_) (fun _=>?_)|refine Br.mk (fun _=>?_) (fun _=>?_))<;>conv=>whnf)
 case' refine_2.refine_1 =>
  refine Ca.of (uH h2.core.pat) ?_;rintro _ _ ⟨rfl,rfl⟩;refine⟨h2.core,?_⟩;conv=>whnf
  repeat ((refine Am.of (fun w _=>uN _ _ _ w) ?_);conv=>whnf)
  refine Ru.aE (eD w2) ?_;intro x7 w3 hx7 gg r7 k3;have h3:=h2.aj k3;refine⟨h3.core,?_⟩;conv=>whnf
 case' refine_2.refine_2 =>
  refine Ru.aE (eD w2) ?_;intro x7 w3 hx7 gg r7 k3;have h3:=h2.aj k3;refine⟨h3.core,?_⟩;conv=>whnf
  refine Ca.of (uH h3.core.pat) ?_;rintro _ _ ⟨rfl,rfl⟩;refine⟨h3.core,?_⟩;conv=>whnf
  repeat ((refine Am.of (fun w _=>uN _ _ _ w) ?_);conv=>whnf)
 all_goals
  have r63:=zo.ab k3 (by simp);refine Ru.im r7 bu (by omega) (fun j _=>ain j) ?_;intro w4 r4 k4;have k34:Aa [] w2 w4:=k3.then k4 (fun x hx=>.inr (by rw[List.mem_singleton.1 hx,hx7];exact Nat.le_refl _));have h4:=h2.aj k34;have vY:=zo.ab k34 (by simp);have bU:Aa [] w w4:=k2.trans k34;have h67:x6≠x7:=by have:=zo.lt;omega
  have hw6:w.heap.size<=x6:=by omega
  have hw7:w.heap.size<=x7:=by omega
  have rs:Row w4 x7 116 62 (scF K s also 0):=r4.congr (fun j hj=>aio j hj);clear r4 k4 k34 r7 k3 r63 zo h2 k2 gO dj gg hx6 hx7 h3 w3 w2 w1;conv=>whnf
  repeat ((first|(refine Ld.of h4.core.c1 ?_)|refine CW.s ?_);conv=>whnf)
  refine Ca.of (jb h4) ?_;rintro _ w5 ⟨Y,e,rfl,O⟩;have h5:=h4.aj O.ab;have qI:=vY.ab O.ab (by simp);have rs5:=rs.ab O.ab (by simp);have dL:=bU.trans O.ab;have hY:x7∉aK Y:=fun hm=>by have:=O.new x7 hm;have:=rs.lt;omega
  conv=>whnf
  refine CW.loop (ι:=Nat) (fun i w'=>i<=12/\On w' N K P b n X c/\Row w' x6 116 62 Cp.zero.cell/\Row w' x7 116 62 (scF K s also i)/\Ly w' 3 1 Y 12 e (fun j=>.int .i64 (K.st j:Nat))/\Aa [] w w') (fun i=>[(0,.pointer (some ⟨N.k,0,none⟩)),(2,.int .i64 also),(6,.pointer (some ⟨x6,0,none⟩)),(7,.pointer (some ⟨x7,0,none⟩)),(25,.slice Y 12 e),(26,.int .i64 12),(27,.int .i64 i)]) (fun i=>12-i) 0 ai ⟨by omega,h5,qI,rs5,O.ly,dL⟩ ⟨rfl,rfl,rfl,rfl,rfl,rfl,rfl,trivial⟩ ?_;clear O h5 qI rs5 dL h4 vY rs bU w5 w4;rintro i wr ⟨hi,hh,r6,r7,ly,kk⟩;by_cases av:i<12
  ·obtain⟨g,rfl,cg,-⟩:=ly.yF av;by_cases h3:K.st i=3
   ·have hp:=ael (K:=K) (s:=s) (also:=also) i av;simp only[h3,decide_true,Bool.true_or] at hp;conv=>whnf
    repeat ((first|(refine Ld.at (by omega) cg ?_)|(refine Ix.of i (by omega) (by omega) ?_)|refine Br.t ?_|refine Pk.t ?_|refine Br.y ?_|refine CW.s ?_);conv=>whnf)
    refine Sd.rowAt r7 (25+i) (by omega) (by omega) rfl ?_;intro w2 r2 k2;conv=>whnf
    repeat (refine Ar.la ?_;conv=>whnf)
    exact⟨i+1,⟨av,hh.iz r7 (by decide) k2,r6.ab k2 (by simpa using h67),r2.congr (fun j _=>hp j),ly.ab k2 (fun x hx hm=>hY (List.mem_singleton.1 hm ▸ hx)),kk.fresh hw7 k2⟩,⟨rfl,rfl,rfl,rfl,rfl,rfl,vi (by omega),trivial⟩,by simp only;omega⟩
   ·have hp:=ael (K:=K) (s:=s) (also:=also) i av;simp only[h3,decide_false,Bool.false_or] at hp;conv=>whnf
    repeat ((first|(refine Ld.at (by omega) cg ?_)|(refine Ix.of i (by omega) (by omega) ?_)|refine Br.f ?_|refine Pk.f ?_|refine Br.y ?_|refine Br.n ?_|refine CW.s ?_);conv=>whnf)
    refine Sd.rowAt r7 (25+i) (by omega) (by omega) rfl ?_;intro w2 r2 k2;conv=>whnf
    repeat (refine Ar.la ?_;conv=>whnf)
    exact⟨i+1,⟨av,hh.iz r7 (by decide) k2,r6.ab k2 (by simpa using h67),r2.congr (fun j _=>hp j),ly.ab k2 (fun x hx hm=>hY (List.mem_singleton.1 hm ▸ hx)),kk.fresh hw7 k2⟩,⟨rfl,rfl,rfl,rfl,rfl,rfl,vi (by omega),trivial⟩,by simp only;omega⟩
  obtain rfl:i=12:=by omega
  clear av hi ly hY;conv=>whnf
  repeat ((first|refine Br.f ?_|refine CW.s ?_);conv=>whnf)
  refine CW.held (fun w'=>Ad w' N K X c) [] (.take 0 (.take 1 (.take 2 (.take 3 (.take 4 (.take 5 (.one 6 (.one 7 (.done))))))))) ai (by kernel_rfl) (by kernel_rfl) (by kernel_rfl) ?_ ?_
  ·exact hh.core.aj ((Aa.refl _ _).drewN 1)
  have q1:=(Aa.refl [] wr).drewN 1;have h2:=hh.aj q1;have zo:=r6.ab q1 (by simp);have r72:=r7.ab q1 (by simp);have k2:Aa [] w (wr.drewN 1):=kk.trans q1;clear hh r6 r7 kk q1;generalize wr.drewN 1=w2 at *;conv=>whnf
  repeat ((first|(refine Ag.of (fun _ h=>h.c4) ?_)|(refine Am.of (fun w _=>km x7 38 w) ?_));conv=>whnf)
  refine Ca.of (Hl.ah2 w2 N.e K.F h2.core.aH) ?_;rintro _ w3 ⟨Z,ez,rfl,O⟩;have h3:=h2.aj O.ab;have r63:=zo.ab O.ab (by simp);have r73:=r72.ab O.ab (by simp);have k3:=k2.trans O.ab;refine⟨h3.core,?_⟩;conv=>whnf
  refine Bu.copy underlying23 (by kernel_rfl) r73 Z 12 ez 12 rfl (O.ly.th) (fun e=>?_) (by omega) (fun _ _=>rfl) ?_
  ·have:=O.ly.2.2.1 e;have:=O.ly.1;omega
  intro w4 r74 k4;have h4:=h3.iz r73 (by decide) k4;have vY:=r63.ab k4 (by simpa using h67);have bU:=k3.fresh hw7 k4;clear h2 zo r72 k2 h3 r63 r73 k3 O k4;refine⟨h4.core,?_⟩;conv=>whnf
  refine CW.held (fun w'=>Ad w' N K X c) [] (.take 0 (.take 1 (.take 2 (.take 3 (.take 4 (.take 5 (.one 6 (.one 7 (.done))))))))) ai (by kernel_rfl) (by kernel_rfl) (by kernel_rfl) ?_ ?_
  ·exact h4.core.aj ((Aa.refl _ _).drewN 1)
  have q1:=(Aa.refl [] w4).drewN 1;have h2:=h4.aj q1;have zo:=vY.ab q1 (by simp);have r72:=r74.ab q1 (by simp);have k2:Aa [] w (w4.drewN 1):=bU.trans q1;clear h4 vY r74 bU q1;generalize w4.drewN 1=w5 at *;conv=>whnf
  repeat ((first|(refine Ag.of (fun _ h=>h.c4) ?_)|(refine Am.of (fun w _=>km x7 50 w) ?_));conv=>whnf)
  refine Ca.of (Hl.afB w5 N.e K.F h2.core.aH) ?_;rintro _ w6 ⟨Z2,ez2,rfl,O⟩;have h3:=h2.aj O.ab;have r63:=zo.ab O.ab (by simp);have r73:=r72.ab O.ab (by simp);have k3:=k2.trans O.ab;refine⟨h3.core,?_⟩;conv=>whnf
  refine Bu.copy underlying23 (by kernel_rfl) r73 Z2 12 ez2 12 rfl (O.ly.th) (fun e=>?_) (by omega) (fun _ _=>rfl) ?_
  ·have:=O.ly.2.2.1 e;have:=O.ly.1;omega
  intro w7 r77 k7;have h7:=h3.iz r73 (by decide) k7;have ue:=r63.ab k7 (by simpa using h67);have nW:=k3.fresh hw7 k7;have r77:=r77.congr (fun j hj=>alh j hj);refine⟨h7.core,?_⟩;conv=>whnf
  refine Ru.vR r77 underlying116 rfl bu (by omega) ?_;rw[br (fun j _=>by rw[Nat.zero_add]:∀j,j<62->(iA K s also).cell (0+j)=(iA K s also).cell j)];conv=>whnf
  refine Ru.im ue bu (by omega) (fun j _=>Cp.bj _ j) ?_;intro w8 r8 k8;conv=>whnf
  refine Ru.vR r8 underlying116 rfl bu (by omega) ?_;conv=>whnf
  rw[br (fun j hj=>by unfold lay;rw[if_pos (by omega),Nat.zero_add,Nat.sub_zero]:∀j,j<62->lay Cp.zero.cell 0 62 (iA K s also).cell (0+j)=(iA K s also).cell j)];exact⟨rfl,rfl,nW.fresh hw6 k8⟩
end
structure CS.calm(P:CS):Prop where
 f:∀B,P.failed B=false
 b:∀B,P.before B<=0
 e:∀B,P.aC B=false
 d:∀p,P.dm p=0
def CS.lay(P:CS)(p:Nat)(t:Tg)(D:Nat->Nat):CS:=(((((P.bX p (.ct 1)).bX p (.ct 2)).bX p (.ct 3)).bX p (.full t (cm D)))).bC p
def CS.wG(P:CS)(p:Nat):List CS:=[P,P.bX p (.ct 1),(P.bX p (.ct 1)).bX p (.ct 2),((P.bX p (.ct 1)).bX p (.ct 2)).bX p (.ct 3)]
theorem CS.aip{P:CS}(h:P.calm)(B:Nat):P.iq B=P:=by
 unfold CS.iq;rw[if_neg (by have:=h.b B;omega)]
theorem CS.bV{P:CS}(h:P.calm)(p:Nat)(x:Pg):(P.bX p x).calm:=⟨h.f,h.b,h.e,fun q=>by
 show ah P.dm p 0 q=0;unfold ah;split
 ·rfl
 ·exact h.d q⟩
theorem CS.gq{P:CS}(h:P.calm)(p:Nat):(P.bC p).calm:=⟨h.f,h.b,h.e,h.d⟩
theorem CS.mQ{P:CS}(h:P.calm)(p:Nat)(t:Tg)(D:Nat->Nat):(P.lay p t D).calm:=CS.gq (CS.bV (CS.bV (CS.bV (CS.bV h _ _) _ _) _ _) _ _) _
theorem CS.sU{P:CS}(h:P.calm)(p k:Nat)(t:Tg)(D:Nat->Nat):P.wr p k t D=(P.bX p (if k=3 then .full t (cm D) else .ct (k+1)),0):=by
 unfold CS.wr;rw[CS.aip h,if_neg (by rw[h.f];decide)]
theorem CS.aiq{P:CS}(h:P.calm){p:Nat}(hb:P.pg p=.blank)(t:Tg)(D:Nat->Nat):P.vW p t D=(P.lay p t D,0,P.wG p):=by
 have a1:=CS.bV h p (.ct 1);have a2:=CS.bV a1 p (.ct 2);have a3:=CS.bV a2 p (.ct 3);have h0:P.aJ p t D 0=(P,0):=rfl;have h1:P.aJ p t D 1=(P.bX p (.ct 1),0):=by
  unfold CS.aJ;rw[h0,if_pos rfl,CS.sU h,if_neg (by decide)]
 have h2:P.aJ p t D 2=((P.bX p (.ct 1)).bX p (.ct 2),0):=by
  unfold CS.aJ;rw[h1,if_pos rfl,CS.sU a1,if_neg (by decide)]
 have h3:P.aJ p t D 3=(((P.bX p (.ct 1)).bX p (.ct 2)).bX p (.ct 3),0):=by
  unfold CS.aJ;rw[h2,if_pos rfl,CS.sU a2,if_neg (by decide)]
 have h4:P.aJ p t D 4=((((P.bX p (.ct 1)).bX p (.ct 2)).bX p (.ct 3)).bX p (.full t (cm D)),0):=by
  unfold CS.aJ;rw[h3,if_pos rfl,CS.sU a3,if_pos rfl]
 have ht:P.bx p t D 4=P.wG p:=by
  unfold CS.bx;rw[h3,if_pos rfl];unfold CS.bx;rw[h2,if_pos rfl];unfold CS.bx;rw[h1,if_pos rfl];unfold CS.bx;rw[h0,if_pos rfl];rfl
 have e:P.prog p t D=((((P.bX p (.ct 1)).bX p (.ct 2)).bX p (.ct 3)).bX p (.full t (cm D)),0,P.wG p):=by
  unfold CS.prog;rw[hb];simp only;rw[h4,ht]
 unfold CS.vW;rw[e,if_pos rfl];rfl
def CS.dE(P:CS)(B:Nat):CS:={ P with failed:=ah P.failed B false,pg:=fun p=>if p/8=B then .blank else P.pg p,rd:=ah P.rd B 0 }
theorem CS.uO{P:CS}(h:P.calm)(B:Nat):P.erase B=(P.dE B,0):=by
 unfold CS.erase;rw[if_neg (by rw[h.f,h.e];decide)];rfl
theorem CS.xR{P:CS}(h:P.calm)(B:Nat):(P.dE B).calm:=⟨fun b=>by
 unfold CS.dE ah;simp only;split
 ·rfl
 ·exact h.f b,h.b,h.e,h.d⟩
section
variable{w w':World}{N:Cr}{K:KS}{X:Option Addr}{c:Nat}{P:CS}{b:Option Nat}{n:Int}
theorem On.full(h:On w N K P b n X c){p:Nat}(hp:p<96){t:Tg}{D:Nat->Nat}(e:P.pg p=.full t D):t.ok/\t.place=p/\(∀j,D j<256)/\cm D=D:=by
 obtain⟨C,M,A,l⟩:=h.o9;have:=A.cI p hp;rw[e] at this;exact⟨this.1,this.2.1,this.2.2.1,this.2.2.2.1⟩
theorem pU(h:On w N K P b n X c)(B:Hl.HB K.F)(hc:P.calm){p d:Nat}{A:Option Addr}{D:Nat->Nat}{t:Tg}(hp:p<96)(hD:∀j,D j<256)(hl:Ly w 5 1 A 174 d (fun j=>.int .u8 (D j:Nat)))(ht:t.ok)(qH:t.place=p)(hb:P.pg p=.blank) :
  Spec Tryz.prog 109 #[.pointer (some ⟨N.k,0,none⟩),.agg t.arr,.slice A 174 d] w fun v w'=>AD N X c (pT K p) (P.lay p t D) b (P.wG p) w w' (v=al 0) (v=al 7):=by
 have:=rT h B hp hD hl ht qH;rw[CS.aiq hc hb] at this;exact this
end
def aS(P:CS)(p:Nat):Nat->Nat:=match P.pg p with
 |.full _ D=>D
 |_=>fun _=>0
def bm(K:KS)(d i o:Nat):Tg:=⟨((d*8+i:Nat):Int),o,(K.en o).seq,((K.en o).copy+1)%256,(K.en o).lost⟩
structure Cy where
 K:KS
 P:CS
 tr:List CS
 l:List Tg
def jC(d:Nat)(S:Cy)(o:Nat):Cy :=
 ⟨pT (pT S.K (S.K.at_ o-1)) (d*8+S.l.length),(S.P.bC (S.K.at_ o-1)).lay (d*8+S.l.length) (bm S.K d S.l.length o) (aS S.P (S.K.at_ o-1)),
  S.tr++(S.P.bC (S.K.at_ o-1)).wG (d*8+S.l.length),S.l++[bm S.K d S.l.length o]⟩
def cQ(K:KS)(P:CS)(d:Nat)(os:List Nat):Cy:=os.foldl (jC d) ⟨K,P,[],[]⟩
theorem kn(K:KS)(P:CS)(d:Nat)(os:List Nat)(o:Nat):cQ K P d (os++[o])=jC d (cQ K P d os) o:=by
 unfold cQ;rw[List.foldl_append];rfl
theorem ali(d:Nat)(os:List Nat)(S:Cy):∃T,(os.foldl (jC d) S).tr=S.tr++T:=by
 induction os generalizing S with
 |nil=>exact⟨[],by simp⟩
 | cons o os ih =>
  obtain⟨T,hT⟩:=ih (jC d S o);exact⟨_,by rw[List.foldl_cons,hT];show(S.tr++_)++T=_;rw[List.append_assoc]⟩
theorem air(K:KS)(P:CS)(d:Nat)(L:List Nat)(i:Nat):∃T,(cQ K P d L).tr=(cQ K P d (L.take i)).tr++T:=by
 have e:L=L.take i++L.drop i:=(List.take_append_drop i L).symm;have h:=ali d (L.drop i) (cQ K P d (L.take i));unfold cQ at *;rw[<-List.foldl_append, <-e] at h;exact h
def uP(K K':KS):Prop:=∃F,K'={ K with F:=F }
theorem ac6(P:CS)(p q:Nat)(t:Tg)(D:Nat->Nat):(P.lay p t D).pg q=if q=p then .full t (cm D) else P.pg q:=by
 unfold CS.lay CS.bC CS.bX ah;simp only;split<;>rfl
structure Cv(K:KS)(P:CS)(d:Nat)(os:List Nat)(S:Cy):Prop where
 len:S.l.length=os.length
 same:uP K S.K
 hb:Hl.HB S.K.F
 calm:S.P.calm
 pg:∀q,(∀i,i<os.length->q≠d*8+i)->S.P.pg q=P.pg q
theorem ko{K:KS}{P:CS}{d:Nat}(hb:Hl.HB K.F)(hc:P.calm)(hd:d<12)(da:∀o,o<25->K.at_ o<=96)(os:List Nat)(ho:∀o,o∈os->o<25/\K.at_ o≠0)(h8:os.length<=8):Cv K P d os (cQ K P d os):=by
 induction os using eA with
 |h0=>exact⟨rfl,⟨K.F,rfl⟩,hb,hc,fun q _=>rfl⟩
 | h1 os o ih =>
  have ih:=ih (fun x hx=>ho x (List.mem_append_left _ hx)) (by simp at h8;omega);have hoo:=ho o (List.mem_append_right _ (List.mem_singleton.2 rfl));rw[kn];obtain⟨h1,h2,h3,h4,h5⟩:=ih;generalize cQ K P d os=S at *;have e1:S.K.at_=K.at_:=by
   obtain⟨F,hF⟩:=h2;rw[hF]
  have hp:=da o hoo.1;simp only[List.length_append,List.length_singleton] at h8;refine⟨by simp[jC,h1],?_,?_,CS.mQ (CS.gq h4 _) _ _ _,fun q hq=>?_⟩
  ·obtain⟨F,hF⟩:=h2;show ∃F,pT (pT S.K _) _=_;rw[hF];exact⟨_,rfl⟩
  ·show Hl.HB (Hl.qM (Hl.qM S.K.F ((S.K.at_ o-1)/8)) ((d*8+S.l.length)/8));rw[e1];exact(h3.rd (by omega)).rd (by omega)
  ·simp only[List.length_append,List.length_singleton] at hq;unfold jC;simp only;rw[ac6,if_neg (by rw[h1];exact hq _ (by omega))];exact h5 q (fun i hi=>hq i (by omega))
def uQ(l:List Tg)(j:Nat):Value:=(l.getD (j/5) Tg.zero).cell (j%5)
theorem uR:(Tryz.prog.info? 67).map (fun i=>(i.zero,i.size,i.bytes))=some (some (.agg Tg.zero.arr),5,40):=by kernel_rfl
structure BZ(K:KS)(P:CS)(v d:Nat):Prop where
 hb:Hl.HB K.F
 calm:P.calm
 uS:∀o,o<25->K.at_ o<=96
 anu:∀p,p<96->K.ow p<=25
 hv:v<12
 hd:d<12
 live:∀o,o∈bY K.ow v->o<=24/\K.at_ o≠0/\(0<=(K.en o).copy/\(K.en o).copy<=255)/\(K.at_ o-1)/8≠d/\∃t D,P.pg (K.at_ o-1)=.full t D/\t.of=o/\t.seq=(K.en o).seq
 blank:∀i,i<8->P.pg (d*8+i)=.blank
 ok:∀i (h:i<(bY K.ow v).length),(bm K d i (bY K.ow v)[i]).ok
theorem oU(ow:Nat->Nat)(b:Nat):(bY ow b).length<=8:=sN ow b 8
theorem afN(w:World):(Instr.alloc 140 true (.tuple #[])).run Tryz.prog w=.ok (.pointer (some ⟨w.heap.size,0,none⟩)) (w.alloc (.cells #[.int .i64 0,.int .i64 0,.bool false] 140)):=by kernel_rfl
theorem ks(w:World):(Instr.alloc 140 true (.tuple #[])).run Tryz.prog w=.ok (.pointer (some ⟨w.heap.size,0,none⟩)) (w.alloc (eS 3 En.zero.cell 140)):=by
 rw[afN];congr 3;simp[Array.range,Array.ofFn_succ,En.cell,En.zero]
section
variable{w w':World}{N:Cr}{K:KS}{X:Option Addr}{c:Nat}{P:CS}{b:Option Nat}{n:Int}
theorem iL{o:Nat}(ho:o<=24){j:Nat}(hj:j<3):bZ N K X c (7+3*o+j)=(K.en o).cell j:=by
 unfold bZ;rw[if_neg (by omega),if_neg (by omega),if_neg (by omega),if_neg (by omega),if_neg (by omega),if_neg (by omega),if_neg (by omega),if_pos (by omega),show(7+3*o+j-7)/3=o by omega,show(7+3*o+j-7)%3=j by omega]
theorem ais{x:Int}(h:0<=x/\x<=255):fV .and .i64 (x+1) 255=(x+1)%256:=by
 obtain⟨y,rfl⟩:∃y:Nat,x=y:=⟨x.toNat,by omega⟩;have:=tE (a:=y+1) (b:=255) (by omega) (by omega);rw[show((y:Int)+1)=((y+1:Nat):Int) by omega];rw[show(255:Int)=((255:Nat):Int) from rfl,this,show(255:Nat)=2^8-1 from rfl,Nat.and_two_pow_sub_one_eq_mod];omega
theorem uT(t:Tg)(w:World):(Instr.buildSlice 239 1 #[(0,.agg t.arr)]).run Tryz.prog w=.ok (.slice (some ⟨w.heap.size,0,none⟩) 1 1) (w.alloc (.cells t.arr 67)):=by kernel_rfl
theorem Row.ait{w:World}{g n:Nat}{T:TypeId}{f:Nat->Value}(r:Row w g T n f)(j:Nat)(hj:j<n):w.cell? ⟨g,0+j,none⟩=some (f j):=by
 rw[Nat.zero_add];exact r.cell j hj
theorem Af.apf{b:Option Nat}{t1 t2 t3:List CS}{ok:Option Nat->Prop}{dead:CS->Prop}{y:Nat}(hf:fits b t1.length)(h:y<t2.length)(hb:less b t1.length=some y)(hd:dead t2[y]):Af b (t1++t2++t3) ok dead:=by
 rw[List.append_assoc];exact Af.then hf (Af.gone h hb hd)
theorem Af.fits{b:Option Nat}{t1 t2:List CS}(hf:fits b t1.length)(h:fits (less b t1.length) t2.length):Go.Proofs.YtaeikigfgfcadaaGreat.fits b (t1++t2).length:=fun x hx=>by
 subst hx;have h1:=hf x rfl;have h2:=h (x-t1.length) rfl;simp;omega
theorem On.dN{w1 w2:World}{K0:KS}{P0:CS}{b0:Option Nat}{n0:Int}{S:List Nat}(h0:On w N K0 P0 b0 n0 X c)(h:On w1 N K P b n X c)(k:Aa S w1 w2)(hS:∀x,x∈S->w.heap.size<=x):On w2 N K P b n X c:=by
 obtain⟨C0,M0,-⟩:=h0.o9;obtain⟨C,M,q⟩:=h.o9;have hl:=M0.lt;have no:∀y,y<w.heap.size->y∉S:=fun y hy hm=>by have:=hS y hm;omega
 exact⟨h.core.ab k (fun x hx=>no x (h0.core.lt hx)),C,M.ab k (no _ hl.1) (no _ hl.2.1) (no _ hl.2.2.1) (no _ hl.2.2.2.1) (no _ hl.2.2.2.2.1) (no _ hl.2.2.2.2.2),q⟩
theorem qN{l:List Tg}{t:Tg}{i:Nat}(hl:l.length=i)(j:Nat)(hj:j<(i+1)*5):(if j<i*5 then uQ l j else t.cell (j-i*5))=uQ (l++[t]) j:=by
 unfold uQ;by_cases h:j<i*5
 ·have h5:j/5<l.length:=by omega
  rw[if_pos h];simp[List.getD,List.getElem?_append_left h5]
 ·have h5:j/5=l.length:=by omega
  rw[if_neg h,show j-i*5=j%5 by omega];simp[List.getD,h5]
def BB(l:List Tg)(w:World)(v:Value)(w':World):Prop:=∃Z cz,v=.tuple #[.slice Z l.length cz,al 0]/\Ly w' 67 5 Z l.length cz (uQ l)/\∀x,x∈aK Z->w.heap.size<=x
theorem ac7(h:On w N K P b n X c){v d:Nat}(H:BZ K P v d) :
  Spec Tryz.prog 148 #[.pointer (some ⟨N.k,0,none⟩),.int .i64 v,.int .i64 d,.bool false] w fun u w' =>
   AD N X c (cQ K P d (bY K.ow v)).K (cQ K P d (bY K.ow v)).P b (cQ K P d (bY K.ow v)).tr w w' (BB (cQ K P d (bY K.ow v)).l w u w') (u=.tuple #[.slice none 0 0,al 7]):=by
 obtain⟨i0,hi,lZ,lR,l4⟩:=info_parts uR;have hL8:=oU K.ow v;have hinv:∀i,Cv K P d ((bY K.ow v).take i) (cQ K P d ((bY K.ow v).take i)):=fun i=>ko H.hb H.calm H.hd H.uS _ (fun o ho=>by
  have:=H.live o (List.mem_of_mem_take ho);exact⟨by omega,this.2.1⟩) (by simp;omega)
 refine spec_of_wpE (T:=tt) ai func148 rfl (by decide +kernel) ntmps148 (by simp) ?_;conv=>whnf
 repeat ((refine Ld.of h.core.c2 ?_);conv=>whnf)
 refine Ca.of (ah5 h.core.map v H.hv H.anu) ?_;rintro _ w1 ⟨u,rfl,Y,e,rfl,ls,hY,k1⟩;have h1:=h.aj k1;generalize hL:bY K.ow v=L at *;conv=>whnf
 repeat ((first|refine Br.f ?_|refine Ru.ak ?_|refine CW.s ?_);conv=>whnf)
 refine CW.loop (ι:=Nat×Option Addr×Nat×Int) (fun i w'=>i.1<=L.length/\fits b (cQ K P d (L.take i.1)).tr.length/\On w' N (cQ K P d (L.take i.1)).K (cQ K P d (L.take i.1)).P (less b (cQ K P d (L.take i.1)).tr.length) i.2.2.2 X c /\
   Ls w' Y e L/\Ly w' 67 5 i.2.1 i.1 i.2.2.1 (uQ (cQ K P d (L.take i.1)).l)/\(∀x,x∈aK i.2.1->w.heap.size<=x)/\Aa N.all w w')
  (fun i=>[(0,.pointer (some ⟨N.k,0,none⟩)),(2,.int .i64 d),(3,.bool false),(12,.slice i.2.1 i.1 i.2.2.1),(34,.slice Y L.length e),(35,.int .i64 L.length),(36,.int .i64 i.1)]) (fun i=>L.length-i.1) (0,none,0,n) ai
  ⟨by simp,(fun x hx=>by simp[cQ]),by simp only[List.take_zero];rw[show(cQ K P d []).tr.length=0 from rfl,fE];exact h1,ls,Ly.nil _ _ _ _,by simp[aK],Aa.eh k1⟩ ⟨rfl,rfl,rfl,rfl,rfl,rfl,rfl,trivial⟩ ?_;rintro⟨i,Z,cz,n'⟩ wr ⟨hil,hf,hr,hls,hz,hZ,kk⟩;simp only at hil hf hr hls hz hZ kk ⊢;have bW:∀x,w.heap.size<=x->x∉N.all:=fun x hx hm=>by
  have h3:x<w.heap.size:=by
   rcases List.mem_append.1 hm with hm|hm
   ·exact h.core.lt (List.mem_append_left _ hm)
   ·exact h.gn _ hm
  omega
 by_cases av:i<L.length
 ·have wC:=hinv i;have kM:L.take (i+1)=L.take i++[L[i]]:=by rw[List.take_add_one,List.getElem?_eq_getElem av];rfl
  have ng:=kn K P d (L.take i) L[i];rw[<-kM] at ng;have qO:=H.hd;have sO:=H.live L[i] (by rw[hL];exact List.getElem_mem av);have mi:∀i (h:i<L.length),(bm K d i L[i]).ok:=by
   subst hL;exact H.ok
  have mi:=mi i av;have na:=H.blank i (by omega);have da:=H.uS L[i] (by omega);have bM:=hls.th (by omega);obtain⟨gy,oy,rfl,bM⟩:=bM;have ci:=bM i av;have elf:lf L i=.int .i64 ((L[i]:Nat):Int):=by
   unfold lf;rw[lA L av]
  rw[elf] at ci;obtain⟨hlen,⟨F,fm⟩,hhb,abl,bA⟩:=wC;rw[List.length_take,Nat.min_eq_left hil] at hlen bA;have gZ:∃T,(cQ K P d L).tr=(cQ K P d (L.take (i+1))).tr++T:=air K P d L (i+1);generalize cQ K P d (L.take i)=S at *;generalize L[i]=o at *;obtain⟨ho,h0,hcp,hpd,t,D,aiu,wF,hts⟩:=sO;have eat:S.K.at_=K.at_:=by rw[fm]
  have een:S.K.en=K.en:=by rw[fm]
  have sy:S.P.pg (K.at_ o-1)=.full t D:=by rw[bA _ (fun j hj e=>hpd (by omega))];exact aiu
  have afO:S.P.pg (d*8+i)=.blank:=by rw[bA _ (fun j hj e=>by omega)];exact na
  clear bA na aiu bM elf;have etg:Tg.mk ((d:Int)*8+i) o (K.en o).seq (((K.en o).copy+1)%256) (K.en o).lost=bm K d i o:=by
   unfold bm;congr 1
  conv=>whnf
  repeat' ((first|(refine Ld.at (by omega) ci ?_)|refine Br.f ?_|refine Pk.f ?_|refine Pk.t ?_|refine Ix.n ?_|refine Br.y ?_|refine CW.s ?_|refine Br.d (fun _=>?_) (fun _=>?_))<;>conv=>whnf)
  all_goals
   conv=>whnf
   repeat ((refine Ld.of hr.core.c2 ?_);conv=>whnf)
   refine Ca.of (iW hr.core.map o ho (by rw[eat];exact da)) ?_;rintro _ _ ⟨rfl,rfl⟩;rw[if_neg (by rw[eat];exact h0),eat];conv=>whnf
   repeat ((first|refine Br.f ?_|refine Ru.ak ?_|refine CW.s ?_);conv=>whnf)
   refine Ca.of (kj hr hhb (p:=K.at_ o-1) (by omega)) ?_;rintro _ w2 ⟨R,dv,hR,jn,rfl,h2,k2⟩;unfold AA at hR;rw[sy] at hR;obtain⟨hR1,rfl,hR3,hR4,hR5⟩:=hR;rcases jn with⟨-,O,oc,rfl,hO,lyO⟩|⟨hs,-⟩
   case inr=>rw[hR3] at hs;cases hs
   rw[hR1,hR3];have c2:w2.cell? ⟨gy,oy+i,none⟩=some (.int .i64 (o:Nat)):=by
    rw[k2.cell (aZ ci) (bW gy (hY gy (List.mem_singleton.2 rfl)))];exact ci
   conv=>whnf
   refine Ru.aE (cr w2) ?_;intro x17 w3 hx17 gg r17a k3;conv=>whnf
   refine Ru.eW r17a (fun j hj=>gE rfl j hj) ?_;intro w4 r17 k4;have q4:Aa [] w2 w4:=k3.then k4 (fun x hx=>.inr (by rw[List.mem_singleton.1 hx,hx17];exact Nat.le_refl _));have h4:=h2.aj q4;have zk:=lyO.aj q4;have k2:=k2.trans (Aa.eh q4);clear k3 k4 q4 h2 lyO gg r17a hx17 c2 w3;conv=>whnf
   repeat ((first|(refine Ix.of o (by omega) (by omega) ?_)|refine Br.f ?_|refine Ru.ak ?_|refine CW.s ?_);conv=>whnf)
   rw[show 0+7+o*3=7+3*o by omega];refine Ru.cx (q:=(K.en o).cell) h4.core.row underlying140 rfl dK (by omega) (fun j hj=>by rw[iL ho hj, <-een];rfl) ?_;conv=>whnf
   refine Ru.aE (ks w4) ?_;intro x18 w5 hx18 hs5 r18a k5;conv=>whnf
   refine Ru.im r18a dK (by omega) (fun j hj=>En.bj _) ?_;intro w6 r18b k6;have r18:Row w6 x18 140 3 (K.en o).cell:=r18b.congr (fun j hj=>by unfold lay;rw[if_pos (by omega),Nat.sub_zero]);have q6:Aa [] w4 w6:=k5.then k6 (fun x hx=>.inr (by rw[List.mem_singleton.1 hx,hx18];exact Nat.le_refl _));have h6:=h4.aj q6;have ly6:=zk.aj q6;have aiv:=r17.ab q6 (by simp);have k2:=k2.trans (Aa.eh q6);clear k5 k6 q6 h4 zk hs5 r18a r18b hx18 r17 w5;have e0:(K.en o).cell 0=.int .i64 (K.en o).seq:=rfl;have e1:(K.en o).cell 1=.int .i64 (K.en o).copy:=rfl;have e2:(K.en o).cell 2=.bool (K.en o).lost:=rfl;have d0:w6.cell? ⟨x18,0,none⟩=some (.int .i64 (K.en o).seq):=r18.cell 0 (by omega);have d1:w6.cell? ⟨x18,1,none⟩=some (.int .i64 (K.en o).copy):=r18.cell 1 (by omega);have d2:w6.cell? ⟨x18,2,none⟩=some (.bool (K.en o).lost):=r18.cell 2 (by omega);conv=>whnf
   repeat ((first|(refine Ld.of d0 ?_)|(refine Ld.of d1 ?_)|(refine Ld.of d2 ?_)|refine Ar.la ?_);conv=>whnf)
   refine Ru.of (ub _ _ _ _ _ _) ?_;rw[ais hcp,etg];conv=>whnf
   refine Ru.ft ?_;intro x19 w7 hx19 hs7 r19a k7;conv=>whnf
   refine Ru.ln r19a ?_;intro w8 r19 k8;have q8:Aa [] w6 w8:=k7.then k8 (fun x hx=>.inr (by rw[List.mem_singleton.1 hx,hx19];exact Nat.le_refl _));have h8:=h6.aj q8;have ly8:=ly6.aj q8;have zE:=aiv.ab q8 (by simp);have anv:=r18.ab q8 (by simp);have aiw:w.heap.size<=x19:=by
    rw[hx19];have:=k2.size;have:=kk.size;omega
   have k2:=k2.trans (Aa.eh q8);clear k7 k8 q8 h6 ly6 hs7 r19a hx19 aiv r18 d0 d1 d2 w7;have p1:w8.cell? ⟨x17,2,none⟩=some (.int .i64 R.tag.of):=zE.cell 2 (by omega);have p2:w8.cell? ⟨x17,3,none⟩=some (.int .i64 R.tag.seq):=zE.cell 3 (by omega);have p3:w8.cell? ⟨x17,6,none⟩=some (.bool true):=zE.cell 6 (by omega);have p4:w8.cell? ⟨x17,7,none⟩=some (.slice O 174 oc):=zE.cell 7 (by omega);have d0:w8.cell? ⟨x18,0,none⟩=some (.int .i64 (K.en o).seq):=anv.cell 0 (by omega);rw[wF] at p1;rw[hts] at p2;conv=>whnf
   repeat ((first|(refine Ld.at (by omega) p4 ?_)|(refine Ld.at (by omega) p1 ?_)|(refine Ld.at (by omega) p2 ?_)|(refine Ld.at (by omega) p3 ?_)|(refine Ld.at (by omega) d0 ?_)|refine Br.t ?_|refine Pk.t ?_|refine Br.y ?_|refine CW.s ?_);conv=>whnf)
   refine Ru.fG r19 ?_;conv=>whnf
   obtain⟨-,-,hD,-⟩:=hr.full (p:=K.at_ o-1) (by omega) sy;have lyD:Ly w8 5 1 O 174 oc (fun j=>.int .u8 (D j:Nat)):=ly8.congr (fun j hj=>by
    rw[<-hR4];unfold cm;rw[if_pos (by omega)])
   refine Ca.of (pU h8 (hhb.rd (by omega)) (CS.gq abl _) (p:=d*8+i) (by omega) hD lyD mi rfl afO) ?_;rintro _ w9 ⟨k9,hr9⟩;have k29:=k2.trans k9;have z9:=hz.ab k29 (fun x hx=>bW x (hZ x hx));have ls9:=hls.ab k29 (fun x hx=>bW x (hY x hx));have anw:aS S.P (K.at_ o-1)=D:=by
    unfold aS;rw[sy]
   have anx:=r19.ab k9 (bW x19 aiw);have esn:jC d S o=⟨pT (pT S.K (K.at_ o-1)) (d*8+i),(S.P.bC (K.at_ o-1)).lay (d*8+i) (bm K d i o) D,S.tr++(S.P.bC (K.at_ o-1)).wG (d*8+i),S.l++[bm K d i o]⟩:=by
    unfold jC;rw[hlen,eat,anw,show bm S.K d i o=bm K d i o by unfold bm;rw[een]]
   rw[esn] at ng;rcases hr9 with⟨hf9,rfl,n9,h9⟩|⟨y,hy,jq,rfl,n9,h9⟩
   ·conv=>whnf
    repeat ((first|refine Br.f ?_|refine Ru.ak ?_);conv=>whnf)
    refine Ru.fG anx ?_;conv=>whnf
    refine Ru.of (uT _ _) ?_;have ka:Aa [] w9 (w9.alloc (.cells (bm K d i o).arr 67)):=(Aa.refl _ _).alloc _;have ha:Rd (w9.alloc (.cells (bm K d i o).arr 67)) (some ⟨w9.heap.size,0,none⟩) (1*5) (bm K d i o).cell:=fun _=>⟨w9.heap.size,0,rfl,fun j hj=>(Row.tg (heap_alloc_new _ _)).ait j hj⟩
    generalize w9.alloc _=tP at *;conv=>whnf
    refine Bu.append underlying239 hi lZ lR l4 rfl (by omega) (z9.aj ka) _ ha (by omega) (by simp) (fun j hj=>tY _ j hj) (by simp only[maxLen];omega) (by omega) ?_;intro Z2 cz2 zc hz11 jJ hat11 hpre11;have aix:=ls9.aj ka;have z10:=z9.aj ka;have sP:=h.dN (h9.aj ka) jJ hZ;have anz:=aix.ab jJ (fun x hx hm=>(aix.gD z10 (by decide) hx) hm);have qP:Aa N.all w tP:=(kk.trans k29).trans (Aa.eh ka);have aiy:Aa N.all w zc:=qP.then jJ (fun x hx=>.inr (hZ x hx));rw[gk, <-List.length_append] at sP;conv=>whnf
    repeat (refine Ar.la ?_;conv=>whnf)
    refine⟨(i+1,Z2,cz2,n9),⟨av,?_,?_,anz,?_,?_,aiy⟩,⟨rfl,rfl,rfl,rfl,rfl,rfl,vi (by simp only;omega),trivial⟩,by simp only;omega⟩
    ·simp only;rw[ng];exact Af.fits hf hf9
    ·simp only;rw[ng];exact sP
    ·simp only;rw[ng];exact hz11.congr (fun j hj=>qN hlen j hj)
    ·intro x hx;rcases hat11 with e'|e'
     ·rw[e'] at hx;exact hZ x hx
     ·rw[e'] at hx;rw[List.mem_singleton.1 hx];exact qP.size
   ·obtain⟨T,hT⟩:=gZ;conv=>whnf
    repeat ((first|refine Br.t ?_|refine Ru.n1 ?_);conv=>whnf)
    refine⟨rfl,kk.trans k29,?_⟩;rw[hT,ng];exact Af.apf hf hy jq ⟨rfl,n9,h9⟩
 ·obtain rfl:i=L.length:=by omega
  have hlen:=(hinv L.length).len;rw[List.take_length] at *;conv=>whnf
  repeat ((first|refine Br.n ?_|refine CW.s ?_);conv=>whnf)
  exact⟨rfl,kk,.inl ⟨hf,⟨Z,cz,by rw[hlen];rfl,by rw[hlen];exact hz,hZ⟩,n',hr⟩⟩
end
def mvK(K:KS)(t:Tg):KS:={ stK K t t.of.toNat t.place.toNat with dZ:=jI (K.dZ+1) }
def eY(K:KS)(l:List Tg):KS:=l.foldl mvK K
theorem kt(K:KS)(l:List Tg)(t:Tg):eY K (l++[t])=mvK (eY K l) t:=by
 unfold eY;rw[List.foldl_append];rfl
def jr(K:KS)(d:Nat)(l:List Tg):KS:=if aF (eY K l).fo (eY K l).fi 0 then { eY K l with st:=aD (eY K l).st d 2 } else { aT (eY K l) with fo:=true,fb:=d,fi:=l.length }
section
variable{w w':World}{N:Cr}{K:KS}{X:Option Addr}{c:Nat}{P:CS}{b:Option Nat}{n:Int}
theorem abm(x:Int)(j:Nat)(hj:j<110):put (bZ N K X c) 109 (.int .i64 x) j=bZ N { K with dZ:=x } X c j:=by
 unfold put;by_cases h:j=109
 ·subst h;rfl
 ·rw[if_neg h];unfold bZ;simp only;by_cases h1:j<106
  ·have e6:¬j=106:=by omega
   have e7:¬j=107:=by omega
   have e8:¬j=108:=by omega
   simp only[e6,e7,e8,if_false,h1,if_true]
  ·have:j=106\/j=107\/j=108:=by omega
   rcases this with rfl|rfl|rfl<;>rfl
theorem On.gr(h:On w N K P b n X c){Z:Option Addr}{m cz:Nat}{f:Nat->Value}(hz:Ly w 67 5 Z m cz f):∀x,x∈aK Z->x∉N.all:=fun x hx hm=>by
 obtain⟨C,M,q⟩:=h.o9;obtain⟨F,rg⟩:=M.jk.iH.fs.ty;simp only[Cr.all,Cr.own,Pt.l,List.cons_append,List.nil_append,List.mem_cons,List.not_mem_nil,or_false] at hm;rcases hm with rfl|rfl|rfl|rfl|rfl|rfl|rfl|rfl|rfl
 ·exact hz.aL h.core.row (by decide) hx
 ·exact hz.aL h.core.aV (by decide) hx
 ·exact hz.aL h.core.map (by decide) hx
 ·exact hz.aL h.core.front (by decide) hx
 ·exact hz.aL h.core.aH (by decide) hx
 ·exact hz.aL h.core.pat (by decide) hx
 ·exact hz.aL M.row (by decide) hx
 ·exact hz.aL M.cH (by decide) hx
 ·exact hz.aL rg (by decide) hx
theorem apg{w:World}{g o:Nat}{t:Tg}(h:∀m,m<5->w.cell? ⟨g,o+m,none⟩=some (t.cell m)):(loadVar 67 ⟨g,o,none⟩).run Tryz.prog w=.ok (.agg t.arr) w:=by
 have e:∀m,m<5->(load ((⟨g,o,none⟩:Addr).add m)).run Tryz.prog w=.ok (t.cell m) w:=fun m hm=>by
  rw[gI];simp[load,Sem.run,h m hm]
 have ha:(isAgg 67).run Tryz.prog w=.ok true w:=iv underlying67 rfl w;have hs:(sizeOf 67).run Tryz.prog w=.ok 5 w:=dp (by kernel_rfl) w;simp only[loadVar,Sem.run_bind,ha,Result.andThen_ok,if_true,hs,loadCells,loadCellsFrom,e 0 (by omega),e 1 (by omega),e 2 (by omega),e 3 (by omega),e 4 (by omega),Sem.run_pure];rfl
theorem zG(h:On w N K P b n X c){d:Nat}(hd:d<12){l:List Tg}{Z:Option Addr}{cz:Nat}(hz:Ly w 67 5 Z l.length cz (uQ l))(hl8:l.length<=8)
  (hl:∀t,t∈l->(0<=t.of/\t.of<=24)/\0<=t.place/\t.place<96) (hw:∀i,i<l.length->AL (eY K (l.take i)).at_ (eY K (l.take i)).ow) (qk:K.fb<12) (hfi:K.fi<=8) :
  Spec Tryz.prog 149 #[.pointer (some ⟨N.k,0,none⟩),.int .i64 d,.slice Z l.length cz] w fun v w'=>v=.tuple #[]/\On w' N (jr K d l) P b n X c/\Aa N.all w w':=by
 have hap:=h.gr hz;have rI:∀i,(eY K (l.take i)).fo=K.fo/\(eY K (l.take i)).fb=K.fb/\(eY K (l.take i)).fi=K.fi:=fun i=>by
  generalize l.take i=m
  induction m using eA with
  |h0=>exact⟨rfl,rfl,rfl⟩
  |h1 m t ih=>rw[kt];exact ih
 refine spec_of_wpE (T:=tt) ai func149 rfl (by decide +kernel) ntmps149 (by simp) ?_;conv=>whnf
 repeat (refine CW.s ?_;conv=>whnf)
 refine CW.loop (ι:=Nat) (fun i w'=>i<=l.length/\On w' N (eY K (l.take i)) P b n X c/\Aa N.all w w') (fun i=>[(0,.pointer (some ⟨N.k,0,none⟩)),(1,.int .i64 d),(2,.slice Z l.length cz),(8,.slice Z l.length cz),(9,.int .i64 l.length),(10,.int .i64 i)]) (fun i=>l.length-i) 0 ai ⟨by omega,h,Aa.refl _ _⟩ ⟨rfl,rfl,rfl,rfl,rfl,rfl,trivial⟩ ?_;rintro i wr ⟨hi,hr,kk⟩;have hzr:=hz.ab kk hap;by_cases av:i<l.length
 ·have kM:l.take (i+1)=l.take i++[l[i]]:=by rw[List.take_add_one,List.getElem?_eq_getElem av];rfl
  have ng:=kt K (l.take i) l[i];rw[<-kM] at ng;obtain⟨⟨t1,t2⟩,t3,t4⟩:=hl l[i] (List.getElem_mem av);have hwi:=hw i av;have zD:=hzr.rd (by omega);obtain⟨gz,oz,rfl,bM⟩:=zD;have hct:∀j,j<5->wr.cell? ⟨gz,oz+(i*5+j),none⟩=some (l[i].cell j):=fun j hj=>by
   rw[bM (i*5+j) (by omega)];congr 1;unfold uQ;rw[show(i*5+j)/5=i by omega,show(i*5+j)%5=j by omega];simp[List.getD,av]
  generalize eY K (l.take i)=S at *;generalize l[i]=t at *;conv=>whnf
  repeat ((first|refine Ix.n ?_|refine Br.y ?_|refine CW.s ?_);conv=>whnf)
  refine Ru.of (apg (t:=t) (fun m hm=>by rw[Nat.add_assoc];exact hct m hm)) ?_;conv=>whnf
  refine Ru.ft ?_;intro x7 w2 hx7 gO r7a k2;conv=>whnf
  refine Ru.ln r7a ?_;intro w3 r7 k3;have q3:Aa [] wr w3:=k2.then k3 (fun x hx=>.inr (by rw[List.mem_singleton.1 hx,hx7];exact Nat.le_refl _));have h3:=hr.aj q3;conv=>whnf
  refine Ru.fG r7 ?_;conv=>whnf
  refine Ca.of (xP h3 hwi (t:=t) (o:=t.of.toNat) (p:=t.place.toNat) (by omega) (by omega) (by omega) (by omega)) ?_;rintro _ w4 ⟨rfl,h4,k4⟩;have aq0:w4.cell? ⟨N.k,109,none⟩=some (.int .i64 S.dZ):=h4.core.row.cell 109 (by omega);conv=>whnf
  repeat ((first|(refine Ld.of aq0 ?_)|(refine Ar.tB ?_));conv=>whnf)
  refine Sd.rowAt h4.core.row 109 (by omega) (by omega) rfl ?_;intro w5 r5 k5;have h5:On w5 N (mvK S t) P b n X c:=h4.row (K':=mvK S t) k5 r5 (fun j hj=>abm (jI (S.dZ+1)) j hj) rfl;conv=>whnf
  repeat (refine Ar.la ?_;conv=>whnf)
  exact⟨i+1,⟨av,by rw[ng];exact h5,((kk.trans (Aa.eh q3)).trans k4).trans (Aa.jl (by simp[Cr.own]) k5)⟩,⟨rfl,rfl,rfl,rfl,rfl,vi (by omega),trivial⟩,by simp only;omega⟩
 ·obtain rfl:i=l.length:=by omega
  have hf:=rI l.length;rw[List.take_length] at *;conv=>whnf
  repeat ((first|(refine Ld.of hr.core.c3 ?_)|refine Br.n ?_|refine CW.s ?_);conv=>whnf)
  refine Ca.of (mP hr.core.front 0 (by omega) (by omega) (by omega)) ?_;rintro _ w2 ⟨rfl,r2,k2⟩;have h2:=hr.aj k2;unfold jr;by_cases iP:aF (eY K l).fo (eY K l).fi 0=true
  ·rw[if_pos iP,iP];conv=>whnf
   repeat ((first|(refine Ld.of h2.core.c1 ?_)|refine Br.t ?_);conv=>whnf)
   refine Ca.of (eO h2.core.aV d 2 hd (by omega)) ?_;rintro _ w3 ⟨⟨e,rfl⟩,r3,k3⟩;have h3:=h2.aV k3 r3;conv=>whnf
   exact⟨rfl,rfl,h3,(kk.trans (Aa.eh k2)).trans (Aa.jl (by simp[Cr.own]) k3)⟩
  ·have anA:aF (eY K l).fo (eY K l).fi 0=false:=by simpa using iP
   rw[if_neg iP,anA];conv=>whnf
   repeat (refine Br.f ?_;conv=>whnf)
   refine Ca.of (lC h2 (by omega)) ?_;rintro _ w3 ⟨rfl,h3,k3⟩;conv=>whnf
   repeat ((refine Ld.of h3.core.c3 ?_);conv=>whnf)
   refine Ca.of (pR h3.core.front d l.length hd hl8) ?_;rintro _ w4 ⟨rfl,r4,k4⟩;have h4:=h3.front k4 r4;conv=>whnf
   exact⟨rfl,rfl,h4,((kk.trans (Aa.eh k2)).trans k3).trans (Aa.jl (by simp[Cr.own]) k4)⟩
end
def lD(K:KS)(v:Nat):KS:=if (if K.fo then (K.fb:Int) else -1)=v then aT K else K
def ql(K:KS)(v d:Nat):KS:={ lD K v with st:=ah (lD K v).st d 1,pn:=d+1 }
def vcS(K:KS)(P:CS)(v d:Nat):Cy:=cQ (ql K v d) P d (bY (ql K v d).ow v)
def oV(K:KS)(v:Nat):KS:={ K with st:=aD K.st v 0,F:=Hl.ux K.F v }
def nX(K:KS)(P:CS)(v d:Nat):KS:=jr (oV (vcS K P v d).K v) d (vcS K P v d).l
def vZ(K:KS)(P:CS)(v d:Nat):CS:=(vcS K P v d).P.dE v
def vcT(K:KS)(P:CS)(v d:Nat):List CS:=(vcS K P v d).tr++[(vcS K P v d).P]
structure Bt(K:KS)(P:CS)(v d:Nat):Prop where
 bad:au (lD K v).st 3=0
 pn:(lD K v).pn<=12
 fb:K.fb<12
 fi:K.fi<=8
 tk:takeN (lD K v).st (lD K v).pn=some d
 cp:BZ (ql K v d) P v d
 mw:∀i,i<(vcS K P v d).l.length->AL (eY (oV (vcS K P v d).K v) ((vcS K P v d).l.take i)).at_ (eY (oV (vcS K P v d).K v) ((vcS K P v d).l.take i)).ow
theorem afP{K:KS}{P:CS}{d:Nat}(hb:Hl.HB K.F)(hc:P.calm)(hd:d<12)(da:∀o,o<25->K.at_ o<=96)(os:List Nat)(ho:∀o,o∈os->o<25/\K.at_ o≠0)(h8:os.length<=8)(t:Tg)(ht:t∈(cQ K P d os).l):∃i,∃h:i<os.length,t=bm K d i os[i]:=by
 induction os using eA with
 |h0=>cases ht
 | h1 os o ih =>
  have h7:os.length<=8:=by simp at h8;omega
  have jG:∀x,x∈os->x<25/\K.at_ x≠0:=fun x hx=>ho x (List.mem_append_left _ hx);have hi:=ko hb hc hd da os jG h7;rw[kn] at ht;unfold jC at ht;simp only at ht;rcases List.mem_append.1 ht with h|h
  ·obtain⟨i,hi,e⟩:=ih jG h7 h;exact⟨i,by simp;omega,by rw[List.getElem_append_left hi];exact e⟩
  ·obtain⟨F,hF⟩:=hi.same;refine⟨os.length,by simp,?_⟩;rw[List.mem_singleton.1 h,hi.len];simp only[List.getElem_append_right (Nat.le_refl _),Nat.sub_self,List.getElem_singleton];unfold bm;rw[hF]
section
variable{w w':World}{N:Cr}{K:KS}{X:Option Addr}{c:Nat}{P:CS}{b:Option Nat}{n:Int}
theorem xS(h:On w N K P b n X c){v d:Nat}(H:Bt K P v d) :
  Spec Tryz.prog 102 #[.pointer (some ⟨N.k,0,none⟩),.int .i64 v,.bool false,.bool false] w fun u w' =>
   AD N X c (nX K P v d) (vZ K P v d) b (vcT K P v d) w w' (u=al 0) (u=al 7):=by
 refine spec_of_wpE (T:=tt) ai func102 rfl (by decide +kernel) ntmps102 (by simp) ?_;conv=>whnf
 refine CW.cut (ι:=Unit) (fun _ w'=>On w' N (lD K v) P b n X c/\Aa N.all w w') (fun _=>[(0,.pointer (some ⟨N.k,0,none⟩)),(1,.int .i64 v),(2,.bool false),(3,.bool false)]) ai ?_ ?_
 ·conv=>whnf
  repeat ((refine Ld.of h.core.c3 ?_);conv=>whnf)
  refine Ca.of (kg h.core.front) ?_;rintro _ _ ⟨rfl,rfl⟩;have fb:=H.fb;unfold lD;by_cases hv:(if K.fo=true then (K.fb:Int) else -1)=v
  ·rw[if_pos hv,hv];conv=>whnf
   repeat (refine Br.y ?_;conv=>whnf)
   refine Ca.of (lC h fb) ?_;rintro _ w2 ⟨rfl,h2,k2⟩;conv=>whnf
   exact⟨(),⟨h2,k2⟩,⟨rfl,rfl,rfl,rfl,trivial⟩⟩
  ·rw[if_neg hv];conv=>whnf
   repeat ((refine Br.jB (decide_eq_false hv) ?_);conv=>whnf)
   exact⟨(),⟨h,Aa.refl _ _⟩,⟨rfl,rfl,rfl,rfl,trivial⟩⟩
 rintro _ w1 ⟨h1,k1⟩;have cN:=H.bad;have hpn:=H.pn;have kM:=H.tk;have hwo:ax (lD K v).st=false:=by
  unfold ax;rw[cN];rfl
 refine CW.loop (ι:=Unit) (fun _ w'=>w'=w1) (fun _=>[(0,.pointer (some ⟨N.k,0,none⟩)),(1,.int .i64 v),(2,.bool false),(3,.bool false)]) (fun _=>0) () ai rfl ⟨rfl,rfl,rfl,rfl,trivial⟩ ?_;rintro _ wr rfl;conv=>whnf
 repeat ((refine Ld.of h1.core.c1 ?_);conv=>whnf)
 refine Ca.of (iV h1.core.aV 3) ?_;rintro _ _ ⟨rfl,rfl⟩;rw[cN];conv=>whnf
 repeat ((first|(refine Ld.of h1.core.c1 ?_)|refine Br.f ?_|refine Pk.f ?_|refine CW.s ?_);conv=>whnf)
 refine Ca.of (eQ h1.core.aV) ?_;rintro _ _ ⟨rfl,rfl⟩;rw[hwo];conv=>whnf
 repeat ((first|(refine Ld.of h1.core.c1 ?_)|refine Br.f ?_|refine Pk.f ?_);conv=>whnf)
 refine Ca.of (mN h1.core.aV hpn) ?_;intro u w2 hu;unfold AB at hu;rw[kM] at hu;obtain⟨rfl,r2,k2⟩:=hu;have h2:On w2 N (ql K v d) P b n X c:=h1.aV k2 r2;have dh:=k1.trans (Aa.jl (by simp[Cr.own]) k2);conv=>whnf
 repeat ((first|refine Br.f ?_|refine Ru.ak ?_|refine CW.s ?_);conv=>whnf)
 refine Ca.of (ac7 h2 H.cp) ?_;rintro _ w3 ⟨k3,hr3⟩;have bG:=dh.trans k3;have hmw:=H.mw;have hinv:=ko H.cp.hb H.cp.calm H.cp.hd H.cp.uS (bY (ql K v d).ow v) (fun o ho=>⟨by have:=(H.cp.live o ho).1;omega,(H.cp.live o ho).2.1⟩) (oU _ _);have hlen:=hinv.len;have hL8:=oU (ql K v d).ow v;have abl:=hinv.calm;obtain⟨F,fm⟩:=hinv.same;have aiz:=H.cp.hv;have qO:=H.cp.hd;unfold nX vZ vcT;unfold vcS at hmw ⊢;have qk:(cQ (ql K v d) P d (bY (ql K v d).ow v)).K.fb<12/\(cQ (ql K v d) P d (bY (ql K v d).ow v)).K.fi<=8:=by
  rw[fm];show(lD K v).fb<12/\(lD K v).fi<=8;have:=H.fb;have:=H.fi;unfold lD aT;split
  ·split
   ·exact⟨by simp only;omega,by simp only;omega⟩
   ·exact⟨H.fb,H.fi⟩
  ·exact⟨H.fb,H.fi⟩
 have aph:∀t,t∈(cQ (ql K v d) P d (bY (ql K v d).ow v)).l->(0<=t.of/\t.of<=24)/\0<=t.place/\t.place<96:=fun t ht=>by
  obtain⟨i,hi,rfl⟩:=afP H.cp.hb H.cp.calm H.cp.hd H.cp.uS _ (fun o ho=>⟨by have:=(H.cp.live o ho).1;omega,(H.cp.live o ho).2.1⟩) (oU _ _) t ht;have:=H.cp.ok i hi;unfold Tg.ok at this;omega
 generalize cQ (ql K v d) P d (bY (ql K v d).ow v)=S at *;rcases hr3 with⟨hf3,⟨Z,cz,rfl,hz,hZ⟩,n3,h3⟩|⟨y,hy,jq,rfl,n3,h3⟩
 ·conv=>whnf
  repeat ((first|(refine Ld.of h3.core.c0 ?_)|refine Br.t ?_|refine Pk.t ?_|refine Ru.bh ?_|refine CW.s ?_);conv=>whnf)
  refine Ca.of (nr h3.o9 (B:=v) aiz) ?_;rintro _ w4 ⟨k4,hr4⟩;have bU:=bG.trans (k4.mono (fun x hx=>ja (by rw[List.mem_singleton.1 hx];simp[Pt.l])));have z4:=hz.ab (k4.mono (T:=N.all) (fun x hx=>ja (by rw[List.mem_singleton.1 hx];simp[Pt.l]))) (h3.gr hz);rw[CS.uO abl] at hr4;rcases hr4 with⟨hf4,rfl,M4⟩|⟨y,hy,jq,rfl,M4⟩
  ·have h4:=h3.cH (k4.mono (fun x hx=>by rw[List.mem_singleton.1 hx];simp[Pt.l])) M4;conv=>whnf
   repeat ((first|(refine Ld.of h4.core.c1 ?_)|refine Br.t ?_|refine Ru.bh ?_|refine CW.s ?_);conv=>whnf)
   refine Ca.of (eO h4.core.aV v 0 aiz (by omega)) ?_;rintro _ w5 ⟨⟨e,rfl⟩,r5,k5⟩;have h5:=h4.aV k5 r5;have z5:=z4.ab (Aa.jl (by simp[Cr.own]) k5) (h4.gr z4);conv=>whnf
   repeat ((refine Ld.of h5.core.c4 ?_);conv=>whnf)
   refine Ca.of (Hl.nv w5 N.e _ h5.core.aH v aiz) ?_;rintro _ w6 ⟨rfl,r6,k6⟩;have h6:On w6 N (oV S.K v) (S.P.dE v) (less (less b S.tr.length) 1) n3 X c:=h5.aH k6 r6;have z6:=z5.ab (Aa.jl (by simp[Cr.own]) k6) (h5.gr z5);have gG:=(bU.trans (Aa.jl (by simp[Cr.own]) k5)).trans (Aa.jl (by simp[Cr.own]) k6);conv=>whnf
   refine Ca.of (zG h6 qO z6 (by omega) aph hmw qk.1 qk.2) ?_;rintro _ w7 ⟨rfl,h7,k7⟩;conv=>whnf
   exact⟨rfl,gG.trans k7,Af.then hf3 (.inl ⟨hf4,rfl,n3,h7⟩)⟩
  ·conv=>whnf
   repeat ((first|refine Br.f ?_|refine Ru.e1 ?_|refine CW.s ?_);conv=>whnf)
   refine Ca.of (aU 7 8 (by decide) w4) ?_;rintro _ _ ⟨rfl,rfl⟩;conv=>whnf
   repeat ((first|refine Br.f ?_|refine Ru.e1 ?_|refine CW.s ?_);conv=>whnf)
   refine Ca.of (aU 7 8 (by decide) w4) ?_;rintro _ _ ⟨rfl,rfl⟩;conv=>whnf
   repeat (refine Br.t ?_;conv=>whnf)
   exact⟨rfl,bU,Af.then hf3 (.inr ⟨y,hy,jq,rfl,n3,M4⟩)⟩
 ·conv=>whnf
  repeat ((first|refine Br.f ?_|refine Pk.f ?_|refine Ru.e1 ?_|refine CW.s ?_);conv=>whnf)
  refine Ca.of (aU 7 8 (by decide) w3) ?_;rintro _ _ ⟨rfl,rfl⟩;conv=>whnf
  repeat (refine Br.t ?_;conv=>whnf)
  exact⟨rfl,bG,Af.gone hy jq ⟨rfl,n3,h3⟩⟩
end
def opK(K:KS)(d:Nat):KS:={ aT K with st:=ah (aT K).st d 1,pn:=d+1,fo:=true,fb:=d,fi:=0 }
def pV(K:KS):Int:=bs (fun j=>(K.st j:Nat)) (fun j=>(lv K.at_ j:Nat)) 12
inductive AS (of:Nat):Nat->KS->CS->KS->CS->List CS->Prop
 |room {n:Nat} {K:KS} {P:CS}:K.fb<12->K.fi<=8->aF K.fo K.fi of=true->AS of (n+1) K P K P []
 |spare {n:Nat} {K:KS} {P:CS} {d:Nat} {K':KS} {P':CS} {tr:List CS}:K.fb<12->K.fi<=8->aF K.fo K.fi of=false->fO (aT K).st=true->(aT K).pn<=12->takeN (aT K).st (aT K).pn=some d->AS of n (opK K d) P K' P' tr->AS of (n+1) K P K' P' tr
 |move {n:Nat} {K:KS} {P:CS} {v d:Nat} {K':KS} {P':CS} {tr:List CS}:K.fb<12->K.fi<=8->aF K.fo K.fi of=false->fO (aT K).st=false->(∀o,o<25->K.at_ o<=96)->pV (aT K)=v->Bt (aT K) P v d->AS of n (nX (aT K) P v d) (vZ (aT K) P v d) K' P' tr->AS of (n+1) K P K' P' (vcT (aT K) P v d++tr)
section
variable{w w':World}{N:Cr}{K:KS}{X:Option Addr}{c:Nat}{P:CS}{b:Option Nat}{n:Int}
theorem alj(h:On w N K P b n X c){of:Nat}(ho:of<=24){K':KS}{P':CS}{tr:List CS}(H:AS of 48 K P K' P' tr) :
  Spec Tryz.prog 106 #[.pointer (some ⟨N.k,0,none⟩),.int .i64 of] w fun u w'=>AD N X c K' P' b tr w w' (u=al 0) (u=al 7):=by
 refine spec_of_wpE (T:=tt) ai func106 rfl (by decide +kernel) ntmps106 (by simp) ?_;conv=>whnf
 repeat (refine CW.s ?_;conv=>whnf)
 refine CW.loop (ι:=Nat×KS×CS×List CS×List CS) (fun i w'=>i.1<=48/\AS of (48-i.1) i.2.1 i.2.2.1 K' P' i.2.2.2.2/\tr=i.2.2.2.1++i.2.2.2.2/\fits b i.2.2.2.1.length/\(∃n',On w' N i.2.1 i.2.2.1 (less b i.2.2.2.1.length) n' X c)/\Aa N.all w w')
  (fun i=>[(0,.pointer (some ⟨N.k,0,none⟩)),(1,.int .i64 of),(10,.int .i64 i.1)]) (fun i=>48-i.1) (0,K,P,[],tr) ai ⟨by simp,H,rfl,(fun x hx=>by simp),⟨n,by rw[show(([]:List CS)).length=0 from rfl,fE];exact h⟩,Aa.refl _ _⟩ ⟨rfl,rfl,rfl,trivial⟩ ?_;rintro⟨i,K1,P1,t1,t2⟩ wr ⟨hi,hop,htr,hf,⟨n1,h1⟩,kk⟩;simp only at hi hop htr hf h1 kk ⊢;by_cases av:i<48
 ·obtain⟨m,hm⟩:∃m,48-i=m+1:=⟨47-i,by omega⟩;rw[hm] at hop;have hm2:48-(i+1)=m:=by omega
  have hb:K1.fb<12/\K1.fi<=8:=by cases hop<;>exact⟨by assumption,by assumption⟩
  conv=>whnf
  repeat ((first|(refine Ld.of h1.core.c3 ?_)|refine Br.y ?_|refine CW.s ?_);conv=>whnf)
  refine Ca.of (mP h1.core.front of hb.1 hb.2 ho) ?_;rintro _ w2 ⟨rfl,r2,k2⟩;have h2:=h1.aj k2;have dh:=kk.trans (Aa.eh k2);generalize hZ:m+1=M at hop
  cases hop with
  | room b1 b2 hr =>
   rw[hr];conv=>whnf
   repeat (refine Br.t ?_;conv=>whnf)
   refine⟨rfl,dh,.inl ?_⟩;rw[htr,List.append_nil];exact⟨hf,rfl,n1,h2⟩
  | spare b1 b2 hr hs hp ht hn =>
   rename_i m' d'
   obtain rfl:m=m':=by omega
   rw[hr];conv=>whnf
   repeat (refine Br.f ?_;conv=>whnf)
   refine Ca.of (lC h2 hb.1) ?_;rintro _ w3 ⟨rfl,h3,k3⟩;conv=>whnf
   repeat ((first|(refine Ld.of h3.core.c1 ?_)|refine CW.s ?_);conv=>whnf)
   refine Ca.of (uw h3.core.aV) ?_;rintro _ _ ⟨rfl,rfl⟩;rw[hs];conv=>whnf
   repeat ((first|(refine Ld.of h3.core.c1 ?_)|refine Br.t ?_);conv=>whnf)
   refine Ca.of (mN h3.core.aV hp) ?_;intro u w4 hu;unfold AB at hu;rw[ht] at hu;obtain⟨rfl,r4,k4⟩:=hu;have h4:=h3.aV k4 r4;conv=>whnf
   repeat ((first|(refine Ld.of h4.core.c3 ?_)|refine Br.f ?_|refine Ru.ak ?_|refine CW.s ?_);conv=>whnf)
   refine Ca.of (pR h4.core.front d' 0 (df ht).1 (by omega)) ?_;rintro _ w5 ⟨rfl,r5,k5⟩;have h5:On w5 N (opK K1 d') P1 (less b t1.length) n1 X c:=h4.front k5 r5;conv=>whnf
   repeat (refine Ar.la ?_;conv=>whnf)
   exact⟨(i+1,opK K1 d',P1,t1,t2),⟨av,by simp only;rw[hm2];exact hn,htr,hf,⟨n1,h5⟩,((dh.trans k3).trans (Aa.jl (by simp[Cr.own]) k4)).trans (Aa.jl (by simp[Cr.own]) k5)⟩,⟨rfl,rfl,vi (by simp only;omega),trivial⟩,by simp only;omega⟩
  | move b1 b2 hr hs ha hv hV hn =>
   rename_i m' v' d' tr'
   obtain rfl:m=m':=by omega
   rw[hr];conv=>whnf
   repeat (refine Br.f ?_;conv=>whnf)
   refine Ca.of (lC h2 hb.1) ?_;rintro _ w3 ⟨rfl,h3,k3⟩;conv=>whnf
   repeat ((first|(refine Ld.of h3.core.c1 ?_)|refine CW.s ?_);conv=>whnf)
   refine Ca.of (uw h3.core.aV) ?_;rintro _ _ ⟨rfl,rfl⟩;rw[hs];conv=>whnf
   repeat (refine Br.f ?_;conv=>whnf)
   refine CW.held (fun w'=>Ad w' N (aT K1) X c) [] (.take 0 (.take 1 (.take 2 (.take 3 (.take 5 (.take 6 (.take 7 (.take 8 (.one 4 (.one 9 (.one 10 (.take 11 (.take 12 (.take 13 (.take 14 (.take 15 (.done))))))))))))))))) ai (by kernel_rfl) (by kernel_rfl) (by kernel_rfl) ?_ ?_
   ·exact h3.core.aj ((Aa.refl _ _).drewN 1)
   have q3:=(Aa.refl [] w3).drewN 1;have h4:=h3.aj q3;have bU:=(dh.trans k3).trans (Aa.eh q3);generalize w3.drewN 1=w4 at *;conv=>whnf
   repeat ((first|(refine Ag.of (fun _ h=>h.c1) ?_)|(refine Ag.of (fun _ h=>h.c2) ?_));conv=>whnf)
   refine Ca.of (jb h4) ?_;rintro _ w5 ⟨Y,e,rfl,O⟩;have h5:=h4.aj O.ab;refine⟨h5.core,?_⟩;conv=>whnf
   refine Ca.of (fj h5.core.map (by
    show ∀o,o<25->(aT K1).at_ o<=96;rw[show(aT K1).at_=K1.at_ by unfold aT;split<;>rfl];exact ha)) ?_
   rintro _ w6 ⟨g,rfl,rg,hg,k6⟩;have h6:=h5.aj k6;refine⟨h6.core,?_⟩;conv=>whnf
   refine Ca.of (xM w6 Y (some ⟨g,0,none⟩) e 12 (fun j=>((aT K1).st j:Nat)) (fun j=>(lv (aT K1).at_ j:Nat)) ((O.ly.aj k6).th) (fun _=>⟨g,0,rfl,fun j hj=>by rw[Nat.zero_add];exact rg.cell j hj⟩)) ?_;rintro _ w7 ⟨rfl,k7⟩;have h7:=h6.aj k7;refine⟨h7.core,?_⟩;unfold pV at hv;rw[hv,if_neg (by omega),if_neg (by omega)];have nW:=((bU.trans (Aa.eh O.ab)).trans (Aa.eh k6)).trans (Aa.eh k7);conv=>whnf
   repeat ((first|refine Br.f ?_|refine Ru.ak ?_|refine CW.s ?_);conv=>whnf)
   refine Ca.of (xS h7 hV) ?_;rintro _ w8 ⟨k8,hr8⟩;rcases hr8 with⟨hf8,rfl,n8,h8⟩|⟨y,hy,jq,rfl,n8,h8⟩
   ·conv=>whnf
    repeat ((first|refine Br.f ?_|refine Ar.la ?_|refine Ru.ak ?_);conv=>whnf)
    rw[gk, <-List.length_append] at h8;exact⟨(i+1,nX (aT K1) P1 v' d',vZ (aT K1) P1 v' d',t1++vcT (aT K1) P1 v' d',tr'),⟨av,by simp only;rw[hm2];exact hn,by simp only;rw[htr,List.append_assoc],Af.fits hf hf8,⟨n8,h8⟩,nW.trans k8⟩,⟨rfl,rfl,vi (by simp only;omega),trivial⟩,by simp only;omega⟩
   ·conv=>whnf
    repeat ((first|refine Br.t ?_|refine Ru.n1 ?_);conv=>whnf)
    refine⟨rfl,nW.trans k8,?_⟩;rw[htr];exact Af.then hf (Af.gone hy jq ⟨rfl,n8,h8⟩)
 ·obtain rfl:i=48:=by omega
  rw[Nat.sub_self] at hop
  cases hop
end
end
end Go.Proofs.YtaeikigfgfcadaaGreat

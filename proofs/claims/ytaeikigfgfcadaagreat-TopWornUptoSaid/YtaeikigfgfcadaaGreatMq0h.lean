/- Texts behind one another: MtW, CleanW, MountW, Clone, Seen, DevMW, Fail, Worn, Bulk, Structs, BulkS, TopArg, JnTopWorn. -/
import Derived.Deep.CondSized
import Derived.Deep.Slices
import Derived.Deep.Fields
import Derived.ChangeSame
import Derived.OpenShut
import Derived.WalkKit
import Derived.ProofKit
import Derived.ChangeOld
import Derived.SizedLaws
import Derived.JoinedCond
import Derived.Lib.SmallJoins
import Derived.Test.YtaeikigfgfcadaaGreatMq0a
import Derived.Test.YtaeikigfgfcadaaGreatMq0b
import Derived.Test.YtaeikigfgfcadaaGreatMq0c
import Derived.Test.YtaeikigfgfcadaaGreatMq0d
import Derived.Test.YtaeikigfgfcadaaGreatMq0e
import Derived.Test.YtaeikigfgfcadaaGreatMq0f
import Derived.Test.YtaeikigfgfcadaaGreatMq0g
namespace Go.Proofs.YtaeikigfgfcadaaGreat
open Go.Proofs.Tryz
set_option maxHeartbeats 16000000
set_option maxRecDepth 20000
set_option linter.unusedVariables false
set_option linter.unusedSimpArgs false
set_option linter.unnecessarySimpa false
section
open Go.RowKit
theorem pU{of above:Int}(L:List Fd):((aQ L of above).2=false->aQ L of above=(Fd.zero,false)/\∀f,f∈L->f.of=of->f.seq<=above) /\
  ((aQ L of above).2=true->(aQ L of above).1∈L/\(aQ L of above).1.of=of/\above<(aQ L of above).1.seq/\∀f,f∈L->f.of=of->f.seq<=above\/f.seq<=(aQ L of above).1.seq):=by
 induction L using ep with
 |h0=>exact⟨fun _=>⟨rfl,fun _ h=>(nomatch h)⟩,fun h=>(by cases h)⟩
 | h1 L f ih =>
  rw[pA];obtain⟨ih1,vA⟩:=ih;generalize aQ L of above=s at *;unfold jo;by_cases h1:f.of≠of\/f.seq<=above
  ·rw[if_pos h1];refine⟨fun h=>⟨(ih1 h).1,fun g hg ho=>?_⟩,fun h=>⟨List.mem_append_left _ (vA h).1,(vA h).2.1,(vA h).2.2.1,fun g hg ho=>?_⟩⟩
   ·rcases List.mem_append.1 hg with hg|hg
    ·exact(ih1 h).2 g hg ho
    ·rw[List.mem_singleton.1 hg] at ho ⊢;rcases h1 with x|x
     ·exact absurd ho x
     ·exact x
   ·rcases List.mem_append.1 hg with hg|hg
    ·exact(vA h).2.2.2 g hg ho
    ·rw[List.mem_singleton.1 hg] at ho ⊢;rcases h1 with x|x
     ·exact absurd ho x
     ·exact .inl x
  ·rw[if_neg h1];have ho:f.of=of:=Classical.byContradiction fun x=>h1 (.inl x);have hab:above<f.seq:=by
    have:¬f.seq<=above:=fun x=>h1 (.inr x);omega
   by_cases h2:s.2=false\/s.1.seq<f.seq\/(f.seq=s.1.seq/\ahead f.copy s.1.copy=true)
   ·rw[if_pos h2];refine⟨fun h=>(by cases h),fun _=>⟨List.mem_append_right _ (List.mem_singleton.2 rfl),ho,hab,fun g hg hgo=>?_⟩⟩;rcases List.mem_append.1 hg with hg|hg
    ·cases hs:s.2
     ·exact .inl ((ih1 hs).2 g hg hgo)
     ·rcases(vA hs).2.2.2 g hg hgo with x|x
      ·exact .inl x
      ·refine .inr ?_;show g.seq<=f.seq;rcases h2 with y|y|y
       ·rw[hs] at y;cases y
       ·omega
       ·omega
    ·rw[List.mem_singleton.1 hg];exact .inr (Int.le_refl _)
   ·rw[if_neg h2];have hs:s.2=true:=by
     cases h:s.2
     ·exact absurd (.inl h) h2
     ·rfl
    refine⟨fun h=>(by rw[hs] at h;cases h),fun _=>⟨List.mem_append_left _ (vA hs).1,(vA hs).2.1,(vA hs).2.2.1,fun g hg hgo=>?_⟩⟩;rcases List.mem_append.1 hg with hg|hg
    ·exact(vA hs).2.2.2 g hg hgo
    ·rw[List.mem_singleton.1 hg];refine .inr ?_;have:¬s.1.seq<f.seq:=fun x=>h2 (.inr (.inl x));omega
theorem pV{P:CS}{p:Nat}{t:Tg}{D:Nat->Nat}(hp:P.pg p=.full t D):∀ {n:Nat},p<n->lL p t∈ao P n
 |0,h=>by omega
 | n+1,h=>by
  rw[je];by_cases h3:p=n
  ·subst h3;rw[u3 hp];exact List.mem_append_right _ (List.mem_singleton.2 rfl)
  ·exact List.mem_append_left _ (pV hp (by omega))
section
variable{P:CS}{k:Cp}{L:Nat->Nat}{m:Int}
def zD(P:CS)(k:Cp)(o:Nat):Nat:=if bw (ao P 96) k o<0 then 0 else (bw (ao P 96) k o).toNat+1
theorem Mt.found(h:Mt P k L m){o:Nat}(ho:o<25):(L o=0->bw (ao P 96) k o = -1) /\
  (L o≠0->∃p t t0 D,bw (ao P 96) k o=((p:Nat):Int)/\p<96/\k.bad (p/8)=false/\P.pg p=.full t D/\P.pg (L o-1)=.full t0 D/\t.of=o/\t.of=t0.of/\t.seq=t0.seq):=by
 have ajm:=pU (of:=(o:Nat)) (above:=kZ k o) (dc (mW (ao P 96) 96) k);unfold bw;rw[sK h.pv.val (Nat.le_refl _),abr k ho] at *;obtain⟨s1,s2⟩:=ajm;have ant:∀f,f∈dc (ao P 96) k↔∃p t D,p<96/\P.pg p=.full t D/\f=lL p t/\k.bad (p/8)=false:=fun f=>by
  unfold dc;constructor
  ·intro hf;obtain⟨h1,h2⟩:=List.mem_filter.1 hf;obtain⟨p,t,D,a,b,rfl⟩:=nq h1;unfold okB at h2;rw[show((lL p t).place/8).toNat=p/8 by rw[mE];omega] at h2;refine⟨p,t,D,a,b,rfl,?_⟩;simpa using h2
  ·rintro⟨p,t,D,a,b,rfl,hb⟩;refine List.mem_filter.2 ⟨pV b a,?_⟩;unfold okB;rw[show((lL p t).place/8).toNat=p/8 by rw[mE];omega,hb];rfl
 constructor
 ·intro e;have u4:o<24:=by
   by_cases jj:o=24
   ·rw[jj] at e;exact absurd e h.pt
   ·omega
  have lV:(aQ (dc (ao P 96) k) o (floor k o)).2=false:=by
   cases hs:(aQ (dc (ao P 96) k) o (floor k o)).2
   ·rfl
   ·obtain⟨a1,a2,a3,_⟩:=s2 hs;obtain⟨p,t,D,b1,b2,b3,b4⟩:=(ant _).1 a1;rw[b3] at a2 a3;have:=h.no o u4 e p t D b1 b2 a2 b4;rw[fR k u4] at a3;have a3:k.fl o<t.seq:=a3;omega
  rw[(s1 lV).1];rfl
 ·intro e;obtain⟨s,T,hf⟩:=h.yes o ho e;obtain⟨t0,D0,c1,c2,c3⟩:=T.is;have yD:lL (L o-1) t0∈dc (ao P 96) k:=(ant _).2 ⟨_,t0,D0,T.lt,c1,rfl,T.bad⟩;have qq:(aQ (dc (ao P 96) k) o (floor k o)).2=true:=by
   cases hs:(aQ (dc (ao P 96) k) o (floor k o)).2
   ·have:t0.seq<=floor k o:=(s1 hs).2 _ yD c2;omega
   ·rfl
  obtain⟨a1,a2,a3,a4⟩:=s2 qq;obtain⟨p,t,D,b1,b2,b3,b4⟩:=(ant _).1 a1;have h1:t0.seq<=floor k o\/t0.seq<=(aQ (dc (ao P 96) k) o (floor k o)).1.seq:=a4 _ yD c2;rw[b3] at a2 a3 h1;have a2:t.of=o:=a2;have a3:floor k o<t.seq:=a3;have h1:t0.seq<=floor k o\/t0.seq<=t.seq:=h1;have h2:=T.max p t D b1 b2 a2 (.inr b4);have pk:t.seq=t0.seq:=by omega
  obtain⟨g1,g2⟩:=h.pv.same p (L o-1) t t0 D D0 b1 T.lt b2 c1 pk;subst g2;refine⟨p,t,t0,D,?_,b1,b4,b2,c1,a2,g1,pk⟩;unfold placeOf;rw[if_pos qq,b3];rfl
theorem Mt.atw(h:Mt P k L m){o:Nat}(ho:o<25):(L o=0->zD P k o=0)/\(L o≠0->∃p t t0 D,zD P k o=p+1/\bw (ao P 96) k o=((p:Nat):Int)/\p<96/\k.bad (p/8)=false/\P.pg p=.full t D/\P.pg (L o-1)=.full t0 D/\t.of=o/\t.of=t0.of/\t.seq=t0.seq):=by
 obtain⟨h1,h2⟩:=h.found ho;unfold zD;refine⟨fun e=>by rw[h1 e];rfl,fun e=>?_⟩;obtain⟨p,t,t0,D,a1,a2⟩:=h2 e;refine⟨p,t,t0,D,?_,a1,a2⟩;rw[a1,if_neg (by omega)];rfl
theorem Mt.api(h:Mt P k L m):Mt P k (zD P k) m/\∀a,Ac P L a->Ac P (zD P k) a:=by
 refine h.aiR (fun o ho e=>?_) (fun o ho e=>(h.atw ho).1 e);obtain⟨p,t,t0,D,a0,a1,a2,a3,a4,a5,a6,a7,a8⟩:=(h.atw ho).2 e;rw[a0,Nat.add_sub_cancel];exact⟨by omega,a2,a3,t0,t,D,a5,a4,a7,a8⟩
theorem Mt.anu(h:Mt P k L m):∃f p t D,aQ (mW (ao P 96) 96) 24 (-1)=(f,true)/\f.place=((p:Nat):Int)/\p<96/\P.pg p=.full t D/\t.of=24/\D=uC k:=by
 have ajm:=pU (of:=24) (above:=-1) (ao P 96);rw[sK h.pv.val (Nat.le_refl _)];obtain⟨s1,s2⟩:=ajm;obtain⟨s,T,hf⟩:=h.yes 24 (by omega) h.pt;obtain⟨t0,D0,c1,c2,c3⟩:=T.is;have yD:=pV c1 T.lt;rw[uF] at hf;have qq:(aQ (ao P 96) 24 (-1)).2=true:=by
  cases hs:(aQ (ao P 96) 24 (-1)).2
  ·have:t0.seq<=-1:=(s1 hs).2 _ yD c2;omega
  ·rfl
 obtain⟨a1,a2,a3,a4⟩:=s2 qq;obtain⟨p,t,D,b1,b2,b3⟩:=nq a1;have h1:t0.seq<=-1\/t0.seq<=(aQ (ao P 96) 24 (-1)).1.seq:=a4 _ yD c2;rw[b3] at a2 h1;have a2:t.of=24:=a2;have h1:t0.seq<=-1\/t0.seq<=t.seq:=h1;have h2:=T.max p t D b1 b2 a2 (.inl rfl);obtain⟨g1,g2⟩:=h.pv.same p (L 24-1) t t0 D D0 b1 T.lt b2 c1 (by omega);subst g2;refine⟨(aQ (ao P 96) 24 (-1)).1,p,t,D,Prod.ext rfl qq,(by rw[b3];rfl),b1,b2,a2,?_⟩;rw[<-h.data,bI c1]
theorem Mt.apj(h:Mt P k L m)(hm:m<=1099511627775):(∀p t D,p<96->P.pg p=.full t D->t.seq<fW (ao P 96) k)/\1<=fW (ao P 96) k/\fW (ao P 96) k<=1099511627775/\∀o,o<24->k.fl o<fW (ao P 96) k:=by
 have h0:=h.told.next;have t1:eZ k (max k.next 0-1) 24<1099511627775:=abu (by omega) (fun j hj=>by have:=h.fl j hj;omega);have t2:tW (ao P 96) k<1099511627775:=afI t1 _ (fun f hf=>by
  obtain⟨p,t,D,a,b,rfl⟩:=nq hf;have:=h.pv.sq p t D a b;show t.seq<_;omega)
 obtain⟨g1,g2⟩:=afH (eZ k (max k.next 0-1) 24) (ao P 96);obtain⟨g3,g4⟩:=abt k (max k.next 0-1) 24;have e:fW (ao P 96) k=tW (ao P 96) k+1:=by
  unfold fW;omega
 have pk:∀p t D,p<96->P.pg p=.full t D->t.seq<fW (ao P 96) k:=fun p t D hp bG=>by
  have:=g2 _ (pV bG hp) (abq (h.pv.val p t D hp bG).1 hp);have h9:t.seq<=tW (ao P 96) k:=this;omega
 refine⟨pk,?_,by omega,fun o ho=>?_⟩
 ·obtain⟨s,T,_⟩:=h.yes 24 (by omega) h.pt;obtain⟨t,D,c1,c2,c3⟩:=T.is;have:=pk _ t D T.lt c1;have h7:=(h.pv.val _ t D T.lt c1).1;unfold Tg.ok at h7;omega
 ·have:=g4 o ho;have h9:eZ k (max k.next 0-1) 24<=tW (ao P 96) k:=g1;omega
theorem anv(h:Mt P k L m):∀i,i<=25 ->
  AM (dq k (ao P 96) i).at_ (dq k (ao P 96) i).ow/\(∀o,o<25->(dq k (ao P 96) i).at_ o=if o<i then zD P k o else 0) /\
  (∀o,o<i->zD P k o≠0->∃t D,P.pg (zD P k o-1)=.full t D/\(dq k (ao P 96) i).en o=⟨t.seq,t.copy,false⟩)/\(∃A O E,dq k (ao P 96) i={ n0K k (ao P 96) with at_:=A,ow:=O,en:=E }) /\
  (i<25->0<=bw (ao P 96) k i->bw (ao P 96) k i<96/\iR (dq k (ao P 96) i).ow i (bw (ao P 96) k i).toNat=0):=by
 have step:∀i,i<25->AM (dq k (ao P 96) i).at_ (dq k (ao P 96) i).ow->(∀o,o<25->(dq k (ao P 96) i).at_ o=if o<i then zD P k o else 0)->L i≠0->∃p t D,zD P k i=p+1/\bw (ao P 96) k i=((p:Nat):Int)/\p<96/\P.pg p=.full t D/\t.of=i/\t.lost=false/\0<=t.seq/\(dq k (ao P 96) i).ow p=0/\bp p i=true:=fun i hi h1 h2 e=>by
  obtain⟨p,t,t0,D,a0,a1,a2,a3,a4,a5,a6,a7,a8⟩:=(h.atw hi).2 e;obtain⟨v1,v2,v3,v4,v5⟩:=h.pv.val p t D a2 a4;refine⟨p,t,D,a0,a1,a2,a4,a6,v3,by unfold Tg.ok at v1;omega,?_,?_⟩
  ·by_cases hz:(dq k (ao P 96) i).ow p=0
   ·exact hz
   ·obtain⟨c1,c2⟩:=h1.o _ a2 hz;have c3:=h2 ((dq k (ao P 96) i).ow p-1) (by omega);generalize (dq k (ao P 96) i).ow p-1=o' at *;by_cases ho:o'<i
    ·rw[if_pos ho] at c3;have hL':L o'≠0:=fun z=>by rw[(h.atw (by omega)).1 z] at c3;omega
     obtain⟨p',t',t0',D',b0,b1,b2,b3,b4,b5,b6,_⟩:=(h.atw (o:=o') (by omega)).2 hL';have:p'=p:=by omega
     subst this;rw[a4] at b4
     cases b4
     omega
    ·rw[if_neg ho] at c3;omega
  ·unfold bp;unfold Tg.ok at v1;by_cases hi4:i=24
   ·simp[hi4]
   ·have:=v1.2.2.2.2.2.2.2.2.2 (by omega);rw[v2] at this;simp;omega
 have fin:∀i,AM (dq k (ao P 96) i).at_ (dq k (ao P 96) i).ow->(∀o,o<25->(dq k (ao P 96) i).at_ o=if o<i then zD P k o else 0)->(i<25->0<=bw (ao P 96) k i->bw (ao P 96) k i<96/\iR (dq k (ao P 96) i).ow i (bw (ao P 96) k i).toNat=0):=fun i h1 h2 hi hl=>by
  by_cases e:L i=0
  ·rw[(h.found hi).1 e] at hl;omega
  ·obtain⟨p,t,D,a0,a1,a2,a4,a6,v3,v4,how,hh⟩:=step i hi h1 h2 e;rw[a1];refine⟨by omega,?_⟩;rw[show((p:Nat):Int).toNat=p by omega];unfold iR;rw[hh,how];rfl
 intro i
 induction i with
 | zero =>
  intro _;have c0:AM (dq k (ao P 96) 0).at_ (dq k (ao P 96) 0).ow:=by
   rw[mz];exact⟨fun p hp e=>absurd rfl e,fun o ho e=>absurd rfl e⟩
  have a0:∀o,o<25->(dq k (ao P 96) 0).at_ o=if o<0 then zD P k o else 0:=fun o ho=>by
   rw[mz];rfl
  exact⟨c0,a0,fun o ho=>by omega,⟨_,_,_,by rw[mz]⟩,fin 0 c0 a0⟩
 | succ i ih =>
  intro hi;obtain⟨h1,h2,h3,⟨A,O,E,h4⟩,_⟩:=ih (by omega);by_cases e:L i=0
  ·have hl:=(h.found (o:=i) (by omega)).1 e;have bt:=mA k (ao P 96) i;rw[if_pos (by rw[hl];decide)] at bt;have c0:AM (dq k (ao P 96) (i+1)).at_ (dq k (ao P 96) (i+1)).ow:=by rw[bt];exact h1
   have a0:∀o,o<25->(dq k (ao P 96) (i+1)).at_ o=if o<i+1 then zD P k o else 0:=fun o ho=>by
    rw[bt,h2 o ho];by_cases ho2:o<i
    ·rw[if_pos ho2,if_pos (by omega)]
    ·rw[if_neg ho2];by_cases ho3:o=i
     ·rw[if_pos (by omega),ho3,(h.atw (by omega)).1 e]
     ·rw[if_neg (by omega)]
   refine⟨c0,a0,fun o ho e'=>?_,⟨A,O,E,by rw[bt];exact h4⟩,fin _ c0 a0⟩;by_cases ho3:o=i
   ·rw[ho3,(h.atw (by omega)).1 e] at e';exact absurd rfl e'
   ·rw[bt];exact h3 o (by omega) e'
  ·obtain⟨p,t,D,a0,a1,a2,a4,a6,v3,v4,how,hh⟩:=step i (by omega) h1 h2 e;have bt:=mA k (ao P 96) i;rw[if_neg (by rw[a1];omega)] at bt;obtain⟨s1,s2⟩:=h1.set (o:=i) (by omega) a2 how hh;have hf:=(aei (o:=i) a4 a6 v4 96).2 a2;rw[a1,show((p:Nat):Int).toNat=p by omega,hf] at bt;simp only[s2] at bt;rw[s2] at s1;have c0:AM (dq k (ao P 96) (i+1)).at_ (dq k (ao P 96) (i+1)).ow:=by rw[bt];exact s1
   have aa:∀o,o<25->(dq k (ao P 96) (i+1)).at_ o=if o<i+1 then zD P k o else 0:=fun o ho=>by
    rw[bt];show af (dq k (ao P 96) i).at_ i (p+1) o=_;unfold af;by_cases ho3:o=i
    ·rw[if_pos ho3,if_pos (by omega),ho3,a0]
    ·rw[if_neg ho3,h2 o ho];by_cases ho2:o<i
     ·rw[if_pos ho2,if_pos (by omega)]
     ·rw[if_neg ho2,if_neg (by omega)]
   refine⟨c0,aa,fun o ho e'=>?_,⟨_,_,_,by rw[bt,h4]⟩,fin _ c0 aa⟩;rw[bt];show ∃t' D',_/\af (dq k (ao P 96) i).en i ⟨t.seq,t.copy,t.lost⟩ o=_;unfold af;by_cases ho3:o=i
   ·rw[if_pos ho3,ho3,a0,Nat.add_sub_cancel];exact⟨t,D,a4,by rw[v3]⟩
   ·rw[if_neg ho3];exact h3 o (by omega) e'
theorem Mt.hyp(h:Mt P k L m):BZ k (ao P 96):=⟨h.told,fun i hi=>(anv h i hi).1.mw,fun i hi=>(anv h i (by omega)).2.2.2.2 hi⟩
def zt(K:KS)(i:Nat):KS:={ K with st:=fun b=>if K.st b=0/\i<=b/\b<12 then 2 else K.st b }
def mtW(k:Cp)(L:List Fd):KS:=fK (nwW k L) (zi (nwW k L).F 12)
theorem anw{A:Nat->Nat}{b o:Nat}(ho:o<25)(e:A o≠0)(h:(A o-1)/8=b):0<lv A b:=by
 by_cases hz:lv A b=0
 ·exact absurd h (fS.1 hz o ho e)
 ·omega
theorem Mt.wi(h:Mt P k L m)(hm:m<=1099511627775){a:Nat->Nat->Nat}(hs:Ac P L a){P':CS}(bG:P'.pg=P.pg):Wi a k (zt (mtW k (ao P 96)) 0) P'/\(mtW k (ao P 96)).qu=[]/\(mtW k (ao P 96)).at_ 24≠0/\Hl.HB (nwW k (ao P 96)).F/\(mtW k (ao P 96)).fo=false/\∀o,o<25->(mtW k (ao P 96)).at_ o≠0->(mtW k (ao P 96)).st (((mtW k (ao P 96)).at_ o-1)/8)≠0:=by
 obtain⟨M,S⟩:=h.api;obtain⟨nx1,nx2,nx3,nx4⟩:=h.apj hm;obtain⟨c1,c2,c3,⟨A,O,E,c4⟩,_⟩:=anv h 25 (Nat.le_refl _);obtain⟨st,e⟩:=abD k (dq k (ao P 96) 25) 12;have bt:=ajl k (K:=dq k (ao P 96) 25) (by rw[c4];rfl) 12;have e0:nwW k (ao P 96)={ dq k (ao P 96) 25 with st:=st }:=e;have bt:∀b,st b=if b<12 then (if k.bad b=true then 3 else if 0<lv (dq k (ao P 96) 25).at_ b then 2 else 0) else 0:=fun b=>by
  rw[<-bt b,e]
 have hHB:Hl.HB (nwW k (ao P 96)).F:=by
  rw[e0,c4];exact Hl.HB.new (fun j hj=>by
   unfold jB jl;rw[if_pos hj,if_pos hj];exact⟨(h.told.rd j hj).1,(h.told.sc j hj).1⟩)
 have aqM:=zj hHB 12 (Nat.le_refl _);have dC:∀o,o<25->(dq k (ao P 96) 25).at_ o=zD P k o:=fun o ho=>by rw[c2 o ho,if_pos ho]
 have ue:k.cur.toNat<96:=by have:=h.told.cur;omega
 have em:mtW k (ao P 96)={ n0K k (ao P 96) with at_:=A,ow:=O,en:=E,st:=st,F:=zi (nwW k (ao P 96)).F 12 }:=by
  unfold mtW fK;rw[e0,c4]
 have dC:∀o,o<25->A o=zD P k o:=fun o ho=>by
  have:=dC o ho;rw[c4] at this;exact this
 rw[c4] at c1 c3 bt;have c1:AM A O:=c1;have c3:∀o,o<25->zD P k o≠0->∃t D,P.pg (zD P k o-1)=.full t D/\E o=⟨t.seq,t.copy,false⟩:=c3;have bt:∀b,st b=if b<12 then (if k.bad b=true then 3 else if 0<lv A b then 2 else 0) else 0:=bt;have ak1:∀o,o<25->A o≠0->st ((A o-1)/8)=2/\(A o-1)/8<12:=fun o ho e=>by
  rw[dC o ho] at e;obtain⟨s,T,_⟩:=M.yes o ho e;have:=T.lt;rw[dC o ho,bt,if_pos (by omega),if_neg (by rw[T.bad];decide),if_pos (anw ho (by rw[dC o ho];exact e) (by rw[dC o ho]))];exact⟨rfl,by omega⟩
 rw[em];have M':Mt P' k A (fW (ao P 96) k):=by
  have M2:Mt P k A (fW (ao P 96) k):=by
   refine⟨⟨M.pv.val,M.pv.same,nx1⟩,by rw[dC 24 (by omega)];exact M.pt,by rw[dC 24 (by omega)];exact M.data,M.told,nx4,fun o ho e=>?_,fun o ho e=>?_⟩
   ·rw[dC o ho] at e ⊢;exact M.yes o ho e
   ·rw[dC o (by omega)] at e;exact M.no o ho e
  exact M2.ext (fun q t D _ e=>.inl (by rw[<-bG];exact e)) (fun o _ _=>by rw[bG])
 refine⟨⟨M',fun o j ho hj=>?_,fun o ho e=>?_,fun _ _=>rfl,⟨nx2,nx3⟩,c1,aqM,ue,fun b hb=>?_,by show 0<=12;omega,by show 0<12;omega,by show 0<=8;omega,fun b i hb e hi=>?_,fun x=>(by cases x),fun x=>(by cases x),fun b hb e=>?_,fun _ o ho e=>?_⟩,rfl,?_,hHB,rfl,fun o ho e=>?_⟩
 ·rw[<-S a hs o j ho hj];show arr P' A o j=_;unfold arr;rw[dC o (by omega)];split
  ·rfl
  ·exact congrFun (dG (by rw[bG])) j
 ·have e:A o≠0:=e;show ∃t D,P'.pg (A o-1)=.full t D/\E o=_;rw[bG,dC o ho];exact c3 o ho (by rw[<-dC o ho];exact e)
 ·show(if st b=0/\0<=b/\b<12 then 2 else st b)<=3;split
  ·omega
  ·rw[bt];split
   ·split
    ·omega
    ·split<;>omega
   ·omega
 ·have e:(if st b=0/\0<=b/\b<12 then 2 else st b)=0:=e;split at e
  ·omega
  ·rename_i h1
   exact absurd ⟨e,Nat.zero_le _,hb⟩ h1
 ·show(if st b=0/\0<=b/\b<12 then 2 else st b)=3;have h3:st b=3:=by rw[bt,if_pos hb,if_pos e]
  rw[if_neg (by omega)];exact h3
 ·left;have e:A o≠0:=e;show(if st ((A o-1)/8)=0/\0<=(A o-1)/8/\(A o-1)/8<12 then 2 else st ((A o-1)/8))=2;rw[(ak1 o ho e).1];rfl
 ·show A 24≠0;rw[dC 24 (by omega)];exact M.pt
 ·have e:A o≠0:=e;show st ((A o-1)/8)≠0;rw[(ak1 o ho e).1];omega
end
section
variable{a:Nat->Nat->Nat}{k:Cp}{K K0 K':KS}{P P0 P':CS}{i:Nat}
theorem Wi.apk(h:Wi a k K P){b:Nat}(hb:b<12)(h2:K.st b=2)(hf:K.fo=false)(hd:∀o,o<25->K.at_ o≠0->(K.at_ o-1)/8≠b)(F:Nat->Int)(hF:Hl.HB F):Wi a k { K with st:=af K.st b 0,F:=F } (P.dD b):=by
 have ne:∀x,x≠b->af K.st b 0 x=K.st x:=fun x hx=>if_neg hx;have eq:af K.st b 0 b=0:=if_pos rfl;have bG:∀p,p/8≠b->(P.dD b).pg p=P.pg p:=fun p hp=>if_neg hp;have hpb:∀p,p/8=b->(P.dD b).pg p=.blank:=fun p hp=>if_pos hp;have xE:∀o,o<25->K.at_ o≠0->(P.dD b).pg (K.at_ o-1)=P.pg (K.at_ o-1):=fun o ho e=>bG _ (hd o ho e);refine⟨h.mt.ext (fun q t D hq e=>?_) xE,h.sh.abg (fun o ho e=>xE o (by omega) e),fun o ho e=>?_,h.fl,h.nx,h.fh,hF,h.cur,fun x hx=>?_,h.pn,h.fb,h.fi,fun x i hx e hi=>?_,fun x=>?_,fun x=>?_,fun x hx e=>?_,fun hw o ho e=>?_⟩
 ·by_cases hqb:q/8=b
  ·rw[hpb q hqb] at e
   cases e
  ·exact .inl (by rw[<-bG q hqb];exact e)
 ·obtain⟨t,D,e1,e2⟩:=h.en o ho e;have e3:=xE o ho e;exact⟨t,D,e3.trans e1,e2⟩
 ·show af K.st b 0 x<=3;by_cases po:x=b
  ·rw[po,eq];omega
  ·rw[ne x po];exact h.st x hx
 ·have e:af K.st b 0 x=0:=e;by_cases po:x=b
  ·exact hpb _ (by omega)
  ·rw[ne x po] at e;rw[bG _ (by omega)];exact h.bl x i hx e hi
 ·have x:K.fo=true:=x;rw[hf] at x;cases x
 ·have x:K.fo=true:=x;rw[hf] at x;cases x
 ·show af K.st b 0 x=3;have:=h.bad x hx e;rw[ne _ (fun y=>by rw[y] at this;omega)];exact this
 ·have hw':aA K.st=false:=kt (fun x hx e=>by
   show af K.st b 0 x=3;rw[ne x (fun y=>by rw[y] at e;omega)];exact e) hw
  have:=h.live hw' o ho e;show af K.st b 0 ((K.at_ o-1)/8)=2\/_;rw[ne _ (hd o ho e)];exact this
structure BG(a:Nat->Nat->Nat)(k:Cp)(K0:KS)(P0:CS)(i:Nat)(K:KS)(P:CS):Prop where
 w:Wi a k (zt K i) P
 st:∀b,i<=b->K.st b=K0.st b
 dead:∀o,o<25->K.at_ o≠0->K.st ((K.at_ o-1)/8)≠0
 fo:K.fo=false
 may:∀B,P.may B->P0.may B
 qu:K.qu=K0.qu
theorem ajn(h:K.st i≠0):zt K (i+1)=zt K i:=by
 unfold zt;congr 1;funext b;by_cases e:b=i
 ·rw[e,if_neg (fun x=>h x.1),if_neg (fun x=>h x.1)]
 ·by_cases h2:K.st b=0/\i<=b/\b<12
  ·rw[if_pos h2,if_pos ⟨h2.1,by omega,h2.2.2⟩]
  ·rw[if_neg h2,if_neg (fun x=>h2 ⟨x.1,by omega,x.2.2⟩)]
theorem aen(x:Nat)(hx:x≠0\/True):(fun b=>if af K.st i x b=0/\i+1<=b/\b<12 then 2 else af K.st i x b)=af (zt K i).st i x:=by
 funext b;unfold af zt;simp only;by_cases e:b=i
 ·rw[if_pos e,if_pos e,if_neg (fun y=>by omega)]
 ·rw[if_neg e,if_neg e];by_cases h2:K.st b=0/\i<=b/\b<12
  ·rw[if_pos h2,if_pos ⟨h2.1,by omega,h2.2.2⟩]
  ·rw[if_neg h2,if_neg (fun x=>h2 ⟨x.1,by omega,x.2.2⟩)]
theorem ajo(h:K.st i=0):af K.st i 0=K.st:=by
 funext b;unfold af;by_cases e:b=i
 ·rw[if_pos e,e,h]
 ·rw[if_neg e]
theorem BG.skip(I:BG a k K0 P0 i K P)(h:K.st i≠0):BG a k K0 P0 (i+1) K P :=
 ⟨by rw[ajn h];exact I.w,fun b hb=>I.st b (by omega),I.dead,I.fo,I.may,I.qu⟩
theorem BG.er(I:BG a k K0 P0 i K P)(hi:i<12)(h:K.st i=0)(hm:∀b,(P.dD i).may b->P.may b):BG a k K0 P0 (i+1) { K with F:=Hl.ua K.F i } (P.dD i):=by
 have hd:∀o,o<25->K.at_ o≠0->(K.at_ o-1)/8≠i:=fun o ho e x=>I.dead o ho e (by rw[x];exact h);have W:=I.w.apk hi (show(zt K i).st i=2 from if_pos ⟨h,Nat.le_refl _,hi⟩) I.fo hd (Hl.ua K.F i) (I.w.hb.er hi);refine⟨?_,fun b hb=>I.st b (by omega),I.dead,I.fo,fun B hB=>I.may B (hm B hB),I.qu⟩;have e:=aen (K:=K) (i:=i) 0 (.inr trivial);rw[ajo h] at e;have e2:zt { K with F:=Hl.ua K.F i } (i+1)={ zt K i with st:=af (zt K i).st i 0,F:=Hl.ua K.F i }:=by
  rw[<-e];rfl
 rw[e2];exact W
theorem BG.bad(I:BG a k K0 P0 i K P)(hi:i<12)(h:K.st i=0)(bG:P'.pg=P.pg)(hm:∀b,P'.may b->P.may b):BG a k K0 P0 (i+1) { K with st:=aG K.st i 3 } P':=by
 have hd:∀o,o<25->K.at_ o≠0->(K.at_ o-1)/8≠i:=fun o ho e x=>I.dead o ho e (by rw[x];exact h);have hs:aG K.st i 3=af K.st i 3:=if_neg (fun x=>x.2 rfl);have W:=(I.w.same (K':=zt K i) (P':=P') bG I.w.hb I.w.cur rfl).afE hi (fun x=>by rw[show(zt K i).fo=false from I.fo] at x;cases x) (.inl hd) (zt K i).F I.w.hb;rw[hs];refine⟨?_,fun b hb=>?_,fun o ho e=>?_,I.fo,fun B hB=>I.may B (hm B hB),I.qu⟩
 ·have e:=aen (K:=K) (i:=i) 3 (.inr trivial);have e2:zt { K with st:=af K.st i 3 } (i+1)={ zt K i with st:=af (zt K i).st i 3,F:=(zt K i).F }:=by
   rw[<-e];rfl
  rw[e2];exact W
 ·show af K.st i 3 b=_;unfold af;rw[if_neg (by omega)];exact I.st b (by omega)
 ·have e:K.at_ o≠0:=e;show af K.st i 3 ((K.at_ o-1)/8)≠0;unfold af;rw[if_neg (hd o ho e)];exact I.dead o ho e
theorem BG.done(I:BG a k K0 P0 12 K P):Wi a k K P:=by
 have e:zt K 12=K:=by
  show { K with st:=fun b=>if K.st b=0/\12<=b/\b<12 then 2 else K.st b }=K;have:(fun b=>if K.st b=0/\12<=b/\b<12 then 2 else K.st b)=K.st:=funext fun b=>if_neg (by omega);rw[this]
 rw[<-e];exact I.w
end
section
variable{w w':World}{N:Cr}{K:KS}{X:Option Addr}{c:Nat}{P:CS}{b:Option Nat}{n:Int}{a:Nat->Nat->Nat}{k:Cp}
structure DL(a:Nat->Nat->Nat)(K:KS)(P:CS)(K':KS)(P':CS):Prop where
 w:∃k,Wi a k K' P'
 may:∀B,P'.may B->P.may B
 qu:K'.qu=K.qu
theorem afU(h:On w N K P none n X c)(I0:BG a k K P 0 K P)(ha:K.at_ 24<=96) :
  Spec Tryz.prog 78 #[.pointer (some ⟨N.k,0,none⟩)] w fun u w'=>u=ak 0/\Aa N.all w w'/\∃K' P' n',On w' N K' P' none n' X c/\DL a K P K' P':=by
 have ck:∀x,w.heap.size<=x->x∉N.all:=fun x hx hm=>by
  have h3:x<w.heap.size:=by
   rcases List.mem_append.1 hm with hm|hm
   ·exact h.core.lt (List.mem_append_left _ hm)
   ·exact h.gT _ hm
  omega
 refine spec_of_wpE (T:=tt) ah func78 rfl (by decide +kernel) ntmps78 (by simp) ?_;conv=>whnf
 repeat ((refine Ld.of h.core.c2 ?_);conv=>whnf)
 refine Ca.of (iS h.core.map 24 (by omega) ha) ?_;rintro _ _ ⟨rfl,rfl⟩;obtain⟨m,a',e,hv,he⟩:∃(m:Bool) (a' e:Int),(if K.at_ 24=0 then Value.tuple #[.int .i64 0,ak 11] else .tuple #[.int .i64 ((K.at_ 24-1:Nat):Int),ak 0])=.tuple #[.int .i64 a',ak e]/\((m=true/\e=11)\/(m=false/\e=0)):=by
  by_cases h0:K.at_ 24=0
  ·exact⟨true,0,11,if_pos h0,.inl ⟨rfl,rfl⟩⟩
  ·exact⟨false,_,0,if_neg h0,.inr ⟨rfl,rfl⟩⟩
 rw[hv];rcases he with⟨hm,rfl⟩|⟨hm,rfl⟩
 all_goals
  conv=>whnf
  repeat ((first|(refine Ld.of h.core.c1 ?_)|refine Ru.ai ?_|refine Ru.n1 ?_|refine CW.s ?_);conv=>whnf)
  refine Ca.of (iW h) ?_;rintro _ w1 ⟨Y,e,rfl,hY⟩;have h1:=h.aj hY.ab;obtain⟨lY,nY,kY⟩:=hY;conv=>whnf
  refine CW.loop (ι:=Nat×KS×CS×Bool×Int) (fun i w'=>i.1<=12/\BG a k K P i.1 i.2.1 i.2.2.1/\On w' N i.2.1 i.2.2.1 none i.2.2.2.2 X c/\Ly w' 3 1 Y 12 e (fun j=>.int .i64 (K.st j:Nat))/\Aa N.all w w')
   (fun i=>[(0,.pointer (some ⟨N.k,0,none⟩)),(5,.bool i.2.2.2.1),(24,.slice Y 12 e),(25,.int .i64 12),(26,.int .i64 i.1)]) (fun i=>12-i.1) (0,K,P,m,n) ah ⟨by omega,I0,h1,lY,Aa.eA kY⟩ ⟨rfl,congrArg Value.bool hm.symm,rfl,rfl,rfl,trivial⟩ ?_;clear h1 lY kY hm hv;rintro⟨i,K1,P1,m1,n1⟩ wr ⟨hi,I,hr,ly,kk⟩;simp only at hi I hr ly kk ⊢;rcases Nat.lt_or_ge i 12 with av|av
  ·have rd:=ly.rd;rw[Nat.mul_one] at rd;obtain⟨gy,oy,rfl,bu⟩:=rd (by omega);have ci:wr.cell? ⟨gy,oy+i,none⟩=some (.int .i64 (K.st i:Nat)):=bu i av;by_cases hs:K.st i=0
   ·rw[hs] at ci;have du:K1.st i=0:=(I.st i (Nat.le_refl _)).trans hs;conv=>whnf
    repeat ((first|(refine Ld.at (by omega) ci ?_)|(refine Ld.of hr.core.c0 ?_)|refine Br.f ?_|refine Ix.n ?_|refine Br.y ?_|refine CW.s ?_);conv=>whnf)
    refine Ca.of (mV hr.qC (B:=i) av) ?_;rintro _ w4 ⟨k4,hr4⟩;have kc4:Aa N.N.l wr w4:=k4.mono (fun x hx=>by rw[List.mem_singleton.1 hx];simp[Pt.l]);have bT:=kk.trans (Aa.ofl kc4);have yH:=ly.ab (Aa.ofl kc4) (fun x hx=>ck x (nY x hx));rcases hr4.two with⟨b4,hb4,rfl,M4⟩|⟨hb4,_⟩
    case inr=>exact absurd rfl hb4
    obtain rfl:=hb4 rfl;have h4:=hr.dz kc4 M4;rcases aeb P1 i with⟨e1,e2,e3⟩|⟨e1,e2,e3,e4⟩
    ·rw[e1];rw[e2] at h4;conv=>whnf
     repeat ((first|(refine Ld.of h4.core.c4 ?_)|refine Br.t ?_|refine Ru.au ?_);conv=>whnf)
     refine Ca.of (Hl.mZ w4 N.e _ h4.core.aL i av) ?_;rintro _ w5 ⟨rfl,r5,k5⟩;have h5:=h4.aL k5 r5;conv=>whnf
     repeat (refine Ar.la ?_;conv=>whnf)
     exact⟨(i+1,_,_,m1,n1),⟨av,I.er av du e3,h5,yH.ab k5 (fun x hx hm=>ck x (nY x hx) (bh (by rw[List.mem_singleton.1 hm];simp[Cr.own]))),bT.trans (Aa.jg (by simp[Cr.own]) k5)⟩,⟨rfl,rfl,rfl,rfl,vi (by simp only;omega),trivial⟩,by simp only;omega⟩
    ·rw[e1];conv=>whnf
     repeat ((first|refine Br.f ?_|refine Ru.e1 ?_);conv=>whnf)
     refine Ca.of (aW 8 8 (by decide) w4) ?_;rintro _ _ ⟨rfl,rfl⟩;conv=>whnf
     repeat ((first|(refine Ld.of h4.core.c1 ?_)|refine Br.t ?_);conv=>whnf)
     refine Ca.of (eK h4.core.aY i 3 av (by omega)) ?_;rintro _ w5 ⟨⟨e5,rfl⟩,q5,k5⟩;have h5:=h4.aY k5 q5;conv=>whnf
     repeat (refine Ar.la ?_;conv=>whnf)
     exact⟨(i+1,_,_,true,n1),⟨av,I.bad av du e2 e4,h5,yH.ab k5 (fun x hx hm=>ck x (nY x hx) (bh (by rw[List.mem_singleton.1 hm];simp[Cr.own]))),bT.trans (Aa.jg (by simp[Cr.own]) k5)⟩,⟨rfl,rfl,rfl,rfl,vi (by simp only;omega),trivial⟩,by simp only;omega⟩
   ·have du:decide (((K.st i:Nat):Int)=0)=false:=decide_eq_false (by omega);conv=>whnf
    repeat ((first|(refine Ld.at (by omega) ci ?_)|refine Ix.n ?_|refine Ar.la ?_|refine Br.y ?_|refine Br.nn ?_|refine CW.s ?_);conv=>whnf)
    exact⟨(i+1,K1,P1,m1,n1),⟨av,I.skip (by rw[I.st i (Nat.le_refl _)];exact hs),hr,ly,kk⟩,⟨rfl,rfl,rfl,rfl,vi (by simp only;omega),trivial⟩,by simp only;omega⟩
  ·obtain rfl:i=12:=by omega
   have W:=I.done
   cases m1
   ·conv=>whnf
    repeat ((first|refine Br.t ?_|refine Br.f ?_|refine Pk.t ?_|refine CW.s ?_);conv=>whnf)
    exact⟨rfl,rfl,kk,K1,P1,n1,hr,⟨k,W⟩,I.may,I.qu⟩
   ·conv=>whnf
    repeat ((first|(refine Ld.of hr.core.c1 ?_)|refine Br.f ?_|refine CW.s ?_);conv=>whnf)
    refine Ca.of (eM hr.core.aY) ?_;rintro _ _ ⟨rfl,rfl⟩;by_cases hw:aA K1.st=true
    ·rw[hw];conv=>whnf
     repeat ((first|refine Br.t ?_|refine Pk.f ?_);conv=>whnf)
     exact⟨rfl,rfl,kk,K1,P1,n1,hr,⟨k,W⟩,I.may,I.qu⟩
    ·have hw:aA K1.st=false:=by simpa using hw
     rw[hw];conv=>whnf
     repeat ((first|refine Br.f ?_|refine Pk.f ?_|refine CW.s ?_);conv=>whnf)
     refine Ca.of (abo hr W) ?_;rintro _ w5 ⟨k5,⟨K2,P2,b2,n2,qk,h2,⟨rfl,K3,P3,L⟩|⟨rfl,L⟩⟩|⟨qk,_⟩⟩
     ·obtain rfl:=qk rfl;have L:=L.uX;conv=>whnf
      refine Ca.of (aW 0 14 (by decide) _) ?_;rintro _ _ ⟨rfl,rfl⟩;conv=>whnf
      repeat (refine Br.t ?_;conv=>whnf)
      exact⟨rfl,rfl,kk.trans k5,K2,P2,n2,h2,L.w,fun B hB=>I.may B (L.may B hB),L.qu.trans I.qu⟩
     ·obtain rfl:=qk rfl;conv=>whnf
      refine Ca.of (aW 14 14 (by decide) _) ?_;rintro _ _ ⟨rfl,rfl⟩;conv=>whnf
      repeat (refine Br.f ?_;conv=>whnf)
      exact⟨rfl,rfl,kk.trans k5,K2,P2,n2,h2,L.w,fun B hB=>I.may B (L.may B hB),L.qu.trans I.qu⟩
     ·exact absurd rfl qk
end
end
section
open Go.RowKit
theorem aeo(P:CS):∀n B,(nB P n).may B->P.may B
 |0,_,h=>h
 |n+1,B,h=>aeo P n B h
def C9(a:Nat->Nat->Nat)(ch:Nat)(P:CS)(w:World)(v:Value)(w':World):Prop :=
 Aa [ch] w w'/\∃(N:Cr) (K':KS) (P':CS) (n:Int),v=.tuple #[.pointer (some ⟨N.k,0,none⟩),ak 0]/\N.N.c=ch/\On w' N K' P' none n none 0/\(∀x,x∈N.all->x=ch\/w.heap.size<=x)/\(∃k,Wi a k K' P')/\(∀B,P'.may B->P.may B)/\K'.qu=[]
attribute [local irreducible] ao nB nwW zi
theorem afV{w:World}{C:Chip}{ch:Nat}{P:CS}(H:Ab w ch C)(hA:Abs C P)(hl:C.left none){a:Nat->Nat->Nat}(T:Tw P 1099511627775 a) :
  Spec Tryz.prog 50 #[.pointer (some ⟨ch,0,none⟩)] w (C9 a ch P w):=by
 have hlen:=nm P 96;have sb:ch<w.heap.size:=Row.lt H;obtain⟨k,L0,Du,S0⟩:=T;have hN:=Du.hyp;obtain⟨W0,hq,jj,hB,fT,fY⟩:=Du.wi (Int.le_refl _) S0 (P':=nB P 96) (zk P 96).1;obtain⟨f,p,t,D,hn1,hn2,hn3,hn4,hn5,hn6⟩:=Du.anu;obtain⟨L,hL⟩:∃L,L=ao P 96:=⟨_,rfl⟩;refine spec_of_wpE (T:=tt) ah func50 rfl (by decide +kernel) ntmps50 (by simp) ?_;conv=>whnf
 repeat (refine CW.s ?_;conv=>whnf)
 refine Ru.of (mB w _ _) ?_;conv=>whnf
 repeat (refine Br.f ?_;conv=>whnf)
 refine Ca.of (ad6 H hA hl) ?_;rintro _ w1 ⟨A,cA,r,ps,C1,rfl,om,ly,rm,hps,H1,hA1,hl1,k1⟩;have uo:(ao P 96).length<=cA:=ly.1;have gN:Spec Tryz.prog 75 #[.slice A (ao P 96).length cA,.map (some r)] w1 fun v w'=>v=.tuple #[agg 62 k.cell,.bool true]/\Aa [] w1 w':=by
  obtain⟨O,oc,D',a1,a2,a3,a4⟩:=hps.yes p t D hn3 hn4 hn5;refine xA ly.rd om uo hlen ⟨hN.told,rm,f,p,hn1,hn2,O,oc,a1,a4.congr (fun j hj=>?_)⟩;have h7:D' j=D j:=by
   rw[<-a3];unfold cq;rw[if_pos (by omega)]
  rw[h7,hn6,nh]
 conv=>whnf
 repeat ((first|refine Br.f ?_|refine Ru.ai ?_|refine CW.s ?_);conv=>whnf)
 refine Ca.of gN ?_;rintro _ w2 ⟨rfl,k2⟩;have H2:=H1.ab k2 (by simp);have ly2:=ly.aj k2;have dJ:=k1.trans (k2.mono (T:=[ch]) (by simp));clear H1 ly k1 k2 rm hps gN H;conv=>whnf
 refine Ru.aF (ew w2) ?_;intro x7 w3 hx7 gG r7 k3;conv=>whnf
 refine Ru.gY r7 bz (by omega) (fun j hj=>Cp.bH _ j) ?_;intro w4 r74 k4;have r74:Row w4 x7 116 62 k.cell:=r74.congr (fun j hj=>sI _ _ j hj);have q4:Aa [] w2 w4:=k3.then k4 (fun x hx=>.inr (by rw[List.mem_singleton.1 hx,hx7];exact Nat.le_refl _));have H4:=H2.ab q4 (by simp);have yH:=ly2.aj q4;have bT:=dJ.trans (q4.mono (T:=[ch]) (by simp));clear H2 ly2 dJ q4 k3 k4 r7 gG;have xC:∀A' cA',Rd w4 A' (L.length*6) (jn L)->Spec Tryz.prog 76 #[.pointer (some ⟨ch,0,none⟩),agg 62 k.cell,.slice A' L.length cA'] w4 fun v w'=>∃N:Cr,v=.tuple #[.pointer (some ⟨N.k,0,none⟩),ak 0]/\On w' N (nwW k L) (nB P 96) none 0 none 0/\N.N.c=ch/\(∀x,x∈N.all->x=ch\/w4.heap.size<=x)/\Aa [] w4 w' :=
  fun A' cA' hr=>afT H4 hA1 hl1 (by rw[hL];exact hN) hr (by rw[hL];omega);subst hL;conv=>whnf
 repeat ((first|refine Br.f ?_|refine CW.s ?_);conv=>whnf)
 refine Ru.cG (q:=k.cell) r74 underlying116 rfl bz (by omega) (fun j hj=>by rw[Nat.zero_add]) ?_;conv=>whnf
 refine Ca.of (xC A cA yH.rd) ?_
 all_goals
  rintro _ w5 ⟨N,rfl,h5,eC,cu,k5⟩;have dE:=bT.trans (k5.mono (T:=[ch]) (by simp));conv=>whnf
  repeat ((first|refine Br.f ?_|refine Ru.ai ?_|refine CW.s ?_);conv=>whnf)
  refine Ru.of (xB w5) ?_;have ry:=Row.made w5 3 (.int .i64 0) 12;have k6:Aa [] w5 (w5.alloc (.cells (madeCells #[.int .i64 0] 12) 3)):=(Aa.refl _ _).alloc _;have h6:=h5.aj k6;have fX:=dE.trans (k6.mono (T:=[ch]) (by simp));have lN:N.N.m<w5.heap.size/\N.N.c<w5.heap.size/\N.N.f<w5.heap.size/\N.N.cd<w5.heap.size/\N.N.g<w5.heap.size/\N.N.h<w5.heap.size:=by
   obtain⟨C5,M5,q5⟩:=h5.qC;exact M5.lt
  have qm:∀y,y<w5.heap.size->y∉[w5.heap.size]:=fun y hy hm=>by
   rw[List.mem_singleton.1 hm] at hy;omega
  have aiM:∀x,x∈N.all->x<w5.heap.size:=fun x hx=>by
   rcases List.mem_append.1 hx with hm|hm
   ·exact h5.core.lt (List.mem_append_left _ hm)
   ·exact h5.gT _ hm
  have hgw:w.heap.size<=w5.heap.size:=dE.size;have hgN:w5.heap.size∉N.all:=fun hx=>by have:=aiM _ hx;omega
  have abf:∀x,x∈N.all->x=ch\/w.heap.size<=x:=fun x hx=>by
   rcases cu x hx with h|h
   ·exact .inl h
   ·exact .inr (Nat.le_trans bT.size h)
  clear h5 k5 k6 dE xC r74 yH H4 bT cu aiM;generalize w5.alloc _=w6 at *;generalize w5.heap.size=g at *;conv=>whnf
  repeat (refine CW.s ?_;conv=>whnf)
  refine CW.loop (ι:=Nat) (fun i w'=>i<=12/\On w' N (nwW k (ao P 96)) (nB P 96) none 0 none 0/\Row w' g 3 12 (fun j=>if j<i then .int .i64 8 else .int .i64 0)/\Aa [ch] w w')
   (fun i=>[(9,.pointer (some ⟨N.k,0,none⟩)),(10,.slice (some ⟨g,0,none⟩) 12 12),(44,.slice (some ⟨g,0,none⟩) 12 12),(45,.int .i64 12),(46,.int .i64 i)]) (fun i=>12-i) 0 ah ⟨by omega,h6,ry.congr (fun j hj=>by simp),fX⟩ ⟨rfl,rfl,rfl,rfl,rfl,trivial⟩ ?_;clear h6 ry fX;rintro i wr ⟨hi,hr,rg,kk⟩;rcases Nat.lt_or_ge i 12 with av|xP
  ·conv=>whnf
   repeat ((first|(refine Ix.of i (by omega) (by omega) ?_)|refine Br.y ?_|refine CW.s ?_);conv=>whnf)
   rw[show 0+i=i by omega];refine Sd.rowAt rg i (by omega) (by omega) rfl ?_;intro w7 rg7 k7;have h7:=hr.aly k7 hgN (qm N.N.m lN.1) (qm N.N.c lN.2.1) (qm N.N.f lN.2.2.1) (qm N.N.cd lN.2.2.2.1) (qm N.N.g lN.2.2.2.2.1) (qm N.N.h lN.2.2.2.2.2);conv=>whnf
   repeat (refine Ar.la ?_;conv=>whnf)
   refine⟨i+1,⟨av,h7,rg7.congr (fun j hj=>?_),kk.then k7 (fun x hx=>.inr (by rw[List.mem_singleton.1 hx];exact hgw))⟩,⟨rfl,rfl,rfl,rfl,vi (by omega),trivial⟩,by simp only;omega⟩;unfold put;by_cases vd:j=i
   ·rw[if_pos vd,if_pos (by omega)]
   ·rw[if_neg vd];simp only;by_cases mK:j<i
    ·rw[if_pos mK,if_pos (by omega)]
    ·rw[if_neg mK,if_neg (by omega)]
  ·obtain rfl:i=12:=by omega
   have rg:Row wr g 3 12 (fun _=>.int .i64 8):=rg.congr (fun j hj=>by simp only[if_pos hj]);conv=>whnf
   repeat ((first|refine Br.f ?_|refine CW.s ?_);conv=>whnf)
   refine Ca.of (ad3 hr hB rg hgN) ?_;rintro _ w7 ⟨rfl,h7,k7⟩;conv=>whnf
   repeat (refine CW.s ?_;conv=>whnf)
   refine Ca.of (afU h7 ⟨W0,fun _ _=>rfl,fY,fT,fun _ h=>h,rfl⟩ (W0.lt (o:=24) (by omega))) ?_;rintro _ w8 ⟨rfl,k8,K8,P8,n8,h8,O8⟩;have pK:Aa [ch] w w8:=kk.then (k7.trans k8) (fun x hx=>by
    rcases abf x hx with h|h
    ·exact .inl (List.mem_singleton.2 h)
    ·exact .inr h)
   conv=>whnf
   repeat ((first|refine Br.f ?_|refine Ru.ai ?_);conv=>whnf)
   exact⟨rfl,pK,N,K8,P8,n8,rfl,eC,h8,abf,O8.w,fun B hB=>aeo P 96 B (O8.may B hB),O8.qu.trans hq⟩
end
section
open Go.RowKit
def Chip.part(C:Chip)(p r f b e:Nat):Chip :=
 { C with ch:=fun a k=>if a/8<p then C.ch a k else Chunk.zero,reads:=fun B=>if B<r then C.reads B else 0,failed:=fun B=>if B<f then C.failed B else false,before:=fun B=>if B<b then C.before B else 0,aH:=fun B=>if B<e then C.aH B else false }
def DD(a:Nat->Nat->Nat)(d ch:Nat)(P:CS)(bP:List Nat)(w':World):Prop:=∃K' P',Af w' bP d ch K' P' none/\(∃k,Wi a k K' P')/\∀B,P'.may B->P.may B
theorem ade{w:World}{d ch:Nat}{C:Chip}{P:CS}(r:Ak w d ch none)(H:Ab w ch C)(hA:Abs C P)(hl:C.left none){a:Nat->Nat->Nat}(T:Tw P 1099511627775 a) :
  Spec Tryz.prog 32 #[.pointer (some ⟨d,0,none⟩)] w fun v w'=>v=ak 0/\Aa [d,ch] w w'/\∃bP,DD a d ch P bP w'/\∀x,x∈bP->x=d\/x=ch\/w.heap.size<=x:=by
 have c0:w.cell? ⟨d,0,none⟩=some (.pointer (some ⟨ch,0,none⟩)):=Row.cell r 0 (by omega);have c1:w.cell? ⟨d,1,none⟩=some (.pointer none):=Row.cell r 1 (by omega);have hdc:d≠ch:=Row.ed r H (by decide);have hdl:d<w.heap.size:=Row.lt r;refine spec_of_wpE (T:=tt) ah func32 rfl (by decide +kernel) ntmps32 (by simp) ?_;conv=>whnf
 repeat ((first|(refine Ld.of c1 ?_)|refine CW.s ?_);conv=>whnf)
 refine Ru.of (xD w _) ?_;conv=>whnf
 repeat ((first|(refine Ld.of c0 ?_)|refine Br.f ?_);conv=>whnf)
 refine Ca.of (afV H hA hl T) ?_;rintro _ w1 ⟨k1,N,K1,P1,n1,rfl,eC,h1,cu,W1,hm1,hq⟩;have r1:Ak w1 d ch none:=Row.ab r k1 (by simpa using hdc);have kk:Aa [d,ch] w w1:=k1.mono (by simp);conv=>whnf
 repeat ((first|refine Br.f ?_|refine Ru.ai ?_|refine CW.s ?_);conv=>whnf)
 refine Sd.rowAt r1 1 (by omega) (by omega) rfl ?_;intro w2 r2 k2;have r2:Ak w2 d ch (some ⟨N.k,0,none⟩):=r2.congr (fun j hj=>pR ch _ _ j hj);have h2:=h1.gr r1 (by decide) k2;conv=>whnf
 refine⟨rfl,rfl,kk.trans (k2.mono (by simp)),_,⟨K1,P1,⟨N,none,0,n1,rfl,r2,h2,eC,hq⟩,W1,hm1⟩,fun x hx=>?_⟩;rcases List.mem_cons.1 hx with rfl|hx
 ·exact .inl rfl
 ·rcases List.mem_append.1 hx with hx|hx
  ·exact .inr (cu x hx)
  ·cases hx
theorem u6{w:World}{ch:Nat}{C:Chip}{P:CS}(H:Ab w ch C)(hA:Abs C P)(hl:C.left none){a:Nat->Nat->Nat}(T:Tw P 1099511627775 a) :
  Spec Tryz.prog 21 #[.pointer (some ⟨ch,0,none⟩)] w fun v w'=>Aa [ch] w w'/\∃d bP,v=.pointer (some ⟨d,0,none⟩)/\DD a d ch P bP w'/\∀x,x∈bP->x=ch\/w.heap.size<=x:=by
 refine spec_of_wpE (T:=tt) ah func21 rfl (by decide +kernel) ntmps21 (by simp) ?_;conv=>whnf
 refine Ca.of (ad9 ch w) ?_;rintro _ w1 ⟨d,rfl,hd,r1,k1⟩;have H1:=H.ab k1 (by simp);conv=>whnf
 repeat (refine CW.s ?_;conv=>whnf)
 refine Ru.of (mG w1 _ _) ?_;conv=>whnf
 repeat ((first|refine Br.f ?_|refine Pk.f ?_|refine Ru.ai ?_);conv=>whnf)
 refine Ca.of (ade r1 H1 hA hl T) ?_;rintro _ w2 ⟨rfl,k2,bP,D2,h2⟩
 have kk:Aa [ch] w w2:=(k1.mono (by simp)).then k2 (fun x hx=>by
  rcases List.mem_cons.1 hx with rfl|hx
  ·exact .inr (by omega)
  ·exact .inl hx)
 conv=>whnf
 repeat ((first|refine Br.f ?_|refine Ru.ai ?_|refine CW.s ?_);conv=>whnf)
 refine⟨rfl,kk,d,bP,rfl,D2,fun x hx=>?_⟩;rcases h2 x hx with h|h|h
 ·exact .inr (by omega)
 ·exact .inl h
 ·exact .inr (Nat.le_trans k1.size h)
theorem ajp{w:World}{c B n:Nat}{C:Chip}(H:Ab w c C)(hB:B<12)(hn:n<=1000):Spec Tryz.prog 26 #[.pointer (some ⟨c,0,none⟩),.int .i64 B,.int .i64 n] w fun v w'=>v=ak 0/\Ab w' c { C with before:=af C.before B ((n:Int)+1) }/\Aa [c] w w':=by
 refine spec_of_wpE (T:=tt) ah func26 rfl (by decide +kernel) ntmps26 (by simp) ?_;conv=>whnf
 refine Ca.of (tP w c B hB) ?_;rintro _ _ ⟨rfl,rfl⟩;conv=>whnf
 repeat ((first|refine Br.f ?_|refine Ar.la ?_|refine Ru.ai ?_|refine CW.s ?_);conv=>whnf)
 rw[show min (n:Int) 9223372036854775806+1=(n:Int)+1 by omega];refine Sd.setAt _ (nP (i:=2) rfl) (H.ph hB) (Row.free H _) rfl ?_;have H2:=H.wx hB ((n:Int)+1);have k2:=Aa.set (w:=w) c (bq B+2) (.int .i64 ((n:Int)+1));generalize w.setCell _ _=w2 at *;conv=>whnf
 exact⟨rfl,rfl,H2,k2⟩
theorem afW{w:World}{c B:Nat}{C:Chip}(H:Ab w c C)(hB:B<12):Spec Tryz.prog 27 #[.pointer (some ⟨c,0,none⟩),.int .i64 B] w fun v w'=>v=ak 0/\Ab w' c { C with aH:=af C.aH B true }/\Aa [c] w w':=by
 refine spec_of_wpE (T:=tt) ah func27 rfl (by decide +kernel) ntmps27 (by simp) ?_;conv=>whnf
 refine Ca.of (tP w c B hB) ?_;rintro _ _ ⟨rfl,rfl⟩;conv=>whnf
 repeat ((first|refine Br.f ?_|refine Ru.ai ?_|refine CW.s ?_);conv=>whnf)
 refine Sd.setAt _ (nP (i:=3) rfl) (H.aai hB) (Row.free H _) rfl ?_;have H2:=H.ab3 hB true;have k2:=Aa.set (w:=w) c (bq B+3) (.bool true);generalize w.setCell _ _=w2 at *;conv=>whnf
 exact⟨rfl,rfl,H2,k2⟩
theorem Abs.apl{C:Chip}{A:CS}(h:Abs C A)(B n:Nat)(hn:n<=1000):Abs { C with before:=af C.before B ((n:Int)+1) } { A with before:=af A.before B ((n:Int)+1) } :=
 ⟨⟨h.wf.b0,h.wf.b1,fun b=>by
  show af C.before B _ b<=_;unfold af;split
  ·omega
  ·exact h.wf.bf b,h.wf.now,h.wf.cI⟩,fun p hp=>(h.cM p hp).congr (fun k hk=>⟨rfl,rfl⟩),h.few,h.dm,h.rd,h.failed,by show af C.before B _=af A.before B _;rw[h.before],h.aH,h.wst⟩
theorem Abs.apm{C:Chip}{A:CS}(h:Abs C A)(B:Nat):Abs { C with aH:=af C.aH B true } { A with aH:=af A.aH B true } :=
 ⟨⟨h.wf.b0,h.wf.b1,h.wf.bf,h.wf.now,h.wf.cI⟩,fun p hp=>(h.cM p hp).congr (fun k hk=>⟨rfl,rfl⟩),h.few,h.dm,h.rd,h.failed,h.before,by show af C.aH B _=af A.aH B _;rw[h.aH],h.wst⟩
def CS.fail(P:CS)(B n:Nat):CS:={ P with before:=af P.before B ((n:Int)+1),aH:=af P.aH B true }
section
variable{w w':World}{own:List Nat}{d ch:Nat}{K:KS}{P:CS}{b:Option Nat}{B n:Nat}
theorem ajq(D:Af w own d ch K P b)(hB:B<12)(hn:n<=1000):Spec Tryz.prog 26 #[.pointer (some ⟨ch,0,none⟩),.int .i64 B,.int .i64 n] w fun v w'=>v=ak 0/\Af w' own d ch K { P with before:=af P.before B ((n:Int)+1) } b/\Aa [ch] w w':=by
 obtain⟨C,H,hA,hl⟩:=D.dz;refine(ajp H hB hn).mono ?_;rintro v w' ⟨rfl,H',k⟩;exact⟨rfl,D.ajk k H' (hA.apl B n hn) hl,k⟩
theorem afX(D:Af w own d ch K { P with before:=af P.before B ((n:Int)+1) } b)(hB:B<12):Spec Tryz.prog 27 #[.pointer (some ⟨ch,0,none⟩),.int .i64 B] w fun v w'=>v=ak 0/\Af w' own d ch K (P.fail B n) b/\Aa [ch] w w':=by
 obtain⟨C,H,hA,hl⟩:=D.dz;refine(afW H hB).mono ?_;rintro v w' ⟨rfl,H',k⟩;exact⟨rfl,D.ajk k H' (hA.apm B) hl,k⟩
theorem Wi.tw{k:Cp}{a:Nat->Nat->Nat}(W:Wi a k K P):Tw P 1099511627775 a:=⟨k,K.at_,W.mt.mono W.nx.2,W.sh⟩
end
inductive CP (a:Nat->Nat) (c:Cl) (w w':World) (a2:Nat->Nat):Option Addr->Nat->Nat->Int->Prop
 |done:a2=c.arr a->CP a c w w' a2 none 0 0 0
 |not:a2=a->CP a c w w' a2 none 0 0 14
 |read {y:Addr} {e:Nat} {f:Nat->Nat}:a2=a->Ly w' 5 1 (some y) 160 e (fun j=>.int .u8 (f j:Nat))->(∀x,x∈aR (some y)->w.heap.size<=x)->(∀j,j<160->f j=qS a c.of j)->CP a c w w' a2 (some y) 160 e 0
theorem abE{w:World}{own:List Nat}{d ch:Nat}{K:KS}{P:CS}{a:Nat->Nat}{k:Cp}(D:Af w own d ch K P none)(W:Wi (qS a) k K P){c:Cl}(hw:c.wf) :
  Spec Tryz.prog 19 #[.pointer (some ⟨d,0,none⟩),agg 24 (cH a),agg 3 c.cell] w fun v w'=>Aa own w w'/\∃K' P' bP a2 Y n e er,v=.tuple #[agg 24 (cH (c.arr a)),.slice Y n e,ak er]/\Af w' bP d ch K' P' none/\(∃k,Wi (qS a2) k K' P')/\(∀x,x∈bP->x∈own\/w.heap.size<=x)/\CP a c w w' a2 Y n e er:=by
 refine(aji D hw W).mono ?_;rintro v w' ⟨kk,⟨K',P',b',bP,hb,D',af4,h⟩|⟨hb,_⟩⟩
 case inr=>exact absurd rfl hb
 obtain rfl:=hb rfl;refine⟨kk,K',P',bP,?_⟩
 cases h with
 |done h1 h2 h3=>exact⟨_,_,_,_,_,h2,D',h3.w,af4,.done rfl⟩
 |not h1 h2 h3 h4=>exact⟨_,_,_,_,_,h2,D',h3.w,af4,.not rfl⟩
 | @read Y e f h1 h2 h3 h4 h5 h6 =>
  have ea:c.arr a=a:=by
   unfold Cl.arr;rw[if_neg (by omega),if_neg (by omega)]
  obtain⟨g,rfl,-,-⟩:=h3.zv (j:=0) (by omega);exact⟨_,_,_,_,_,by rw[ea];exact h2,D',h6.w,af4,.read rfl h3 h4 h5⟩
theorem afY(w:World)(x:Operand):(do eqGuard .neq 37 x (.const (.slice none 0 0)) (.slice none 0 0) (.slice none 0 0);binOp .neq 37 (.slice none 0 0) (.slice none 0 0):Sem Value).run Tryz.prog w=.ok (.bool false) w:=by kernel_rfl
theorem afZ(w:World)(x:Operand)(a:Addr)(n c:Nat):(do eqGuard .neq 37 x (.const (.slice none 0 0)) (.slice (some a) n c) (.slice none 0 0);binOp .neq 37 (.slice (some a) n c) (.slice none 0 0):Sem Value).run Tryz.prog w=.ok (.bool true) w:=by kernel_rfl
theorem alg(x:Int):ac6 (iz x):=by
 have h:iz x=wrap64 x:=IntWalk.i64_left x;rw[h];unfold wrap64 ac6;omega
theorem Dv.aqN{a b:Int}{K:Value->Prop}(k:K (.int .i64 (iz (a.tdiv b))))(h:b≠0:=by decide):Dv .quo .i64 a b K:=⟨h,k⟩
theorem ajr{w:World}{L M:List Cl}{Z:List Int}{A C E:Option Addr}{cA cC cE:Nat}(hL:Rd w A (L.length*3) (clF L))(hZ:Rd w C Z.length (inF Z))(hM:Rd w E (M.length*3) (clF M))(hLw:∀c,c∈L->c.wf)(hZw:∀z,z∈Z->ac6 z)(hMw:∀c,c∈M->c.wf)(hL1:L.length<=1048576) :
  Spec Tryz.prog 4 #[.slice A L.length cA,.slice C Z.length cC,.slice E M.length cE] w fun v w'=>v=.bool true/\Aa [] w w':=by
 refine spec_of_wpE (T:=tt) ah func4 rfl (by decide +kernel) ntmps4 (by simp) ?_;conv=>whnf
 repeat ((first|refine HS.t ?_|refine Br.t ?_|refine Br.f ?_|refine Pk.f ?_|refine Pk.t ?_|refine Pk.and ?_|refine Pk.or ?_|refine Ix.n ?_|refine Ix.of _ (by rfl) (by omega) ?_|refine Ix.i ?_|refine Ar.la ?_|refine Ar.lb ?_|refine Ar.lc ?_|refine Dv.q ?_|refine Dv.r ?_|refine Br.y ?_|refine Br.n ?_|refine Br.ny ?_|refine Br.nn ?_|refine Br.is (by assumption) ?_|refine Br.bF (by assumption) ?_|refine Ld.of (by assumption) ?_|refine Ru.ai ?_|refine Ru.n1 ?_|refine Ru.au ?_|refine Ru.e1 ?_|refine Ru.e2 ?_|refine Ru.e3 ?_|refine Ru.n2 ?_|refine Ru.n3 ?_|refine Ru.ax rfl ?_|refine Ru.aC rfl ?_|refine Ru.aE rfl (by decide) ?_|refine Ru.ay rfl (by decide) ?_|refine Ru.be ?_|refine Ru.bn ?_|refine Ad.be ?_|refine Ad.bn ?_|refine CW.s ?_);conv=>whnf)
 refine Ca.of (ajh hL hLw hL1) ?_;rintro _ w1 ⟨ch,d,own,K,P,k,rfl,Bg⟩;have kL:=abx (a:=fun _=>0) (fun _=>by omega) L;obtain⟨D,I,q,s,nw,kb⟩:=Bg;generalize bJ (fun _=>0) L=a at *;obtain⟨W,-,-⟩:=I.wi s (by omega);clear I q s;conv=>whnf
 repeat ((first|refine HS.t ?_|refine Br.t ?_|refine Br.f ?_|refine Pk.f ?_|refine Pk.t ?_|refine Pk.and ?_|refine Pk.or ?_|refine Ix.n ?_|refine Ix.of _ (by rfl) (by omega) ?_|refine Ix.i ?_|refine Ar.la ?_|refine Ar.lb ?_|refine Ar.lc ?_|refine Dv.q ?_|refine Dv.r ?_|refine Br.y ?_|refine Br.n ?_|refine Br.ny ?_|refine Br.nn ?_|refine Br.is (by assumption) ?_|refine Br.bF (by assumption) ?_|refine Ld.of (by assumption) ?_|refine Ru.ai ?_|refine Ru.n1 ?_|refine Ru.au ?_|refine Ru.e1 ?_|refine Ru.e2 ?_|refine Ru.e3 ?_|refine Ru.n2 ?_|refine Ru.n3 ?_|refine Ru.ax rfl ?_|refine Ru.aC rfl ?_|refine Ru.aE rfl (by decide) ?_|refine Ru.ay rfl (by decide) ?_|refine Ru.be ?_|refine Ru.bn ?_|refine Ad.be ?_|refine Ad.bn ?_|refine CW.s ?_);conv=>whnf)
 refine Ru.aF (cK w1) ?_;intro x9 w2 hx9 fE r9 k2;conv=>whnf
 repeat ((first|refine HS.t ?_|refine Br.t ?_|refine Br.f ?_|refine Pk.f ?_|refine Pk.t ?_|refine Pk.and ?_|refine Pk.or ?_|refine Ix.n ?_|refine Ix.of _ (by rfl) (by omega) ?_|refine Ix.i ?_|refine Ar.la ?_|refine Ar.lb ?_|refine Ar.lc ?_|refine Dv.q ?_|refine Dv.r ?_|refine Br.y ?_|refine Br.n ?_|refine Br.ny ?_|refine Br.nn ?_|refine Br.is (by assumption) ?_|refine Br.bF (by assumption) ?_|refine Ld.of (by assumption) ?_|refine Ru.ai ?_|refine Ru.n1 ?_|refine Ru.au ?_|refine Ru.e1 ?_|refine Ru.e2 ?_|refine Ru.e3 ?_|refine Ru.n2 ?_|refine Ru.n3 ?_|refine Ru.ax rfl ?_|refine Ru.aC rfl ?_|refine Ru.aE rfl (by decide) ?_|refine Ru.ay rfl (by decide) ?_|refine Ru.be ?_|refine Ru.bn ?_|refine Ad.be ?_|refine Ad.bn ?_|refine CW.s ?_);conv=>whnf)
 refine Ru.gY r9 aB (by omega) (fun j hj=>cr _ j) ?_;intro w3 r93 k3;have r93:Row w3 x9 28 24 (cH a):=r93.congr (fun j hj=>by unfold lay;rw[if_pos (by omega),Nat.sub_zero]);have q3:Aa [] w1 w3:=k2.then k3 (fun x hx=>.inr (by rw[List.mem_singleton.1 hx,hx9];exact Nat.le_refl _));have D3:=D.aj q3;have bK:=kb.trans q3;have aqO:w.heap.size<=x9:=by have:=kb.size;omega
 clear k2 k3 r9 fE hx9 q3 D kb;conv=>whnf
 repeat ((first|refine HS.t ?_|refine Br.t ?_|refine Br.f ?_|refine Pk.f ?_|refine Pk.t ?_|refine Pk.and ?_|refine Pk.or ?_|refine Ix.n ?_|refine Ix.of _ (by rfl) (by omega) ?_|refine Ix.i ?_|refine Ar.la ?_|refine Ar.lb ?_|refine Ar.lc ?_|refine Dv.q ?_|refine Dv.r ?_|refine Br.y ?_|refine Br.n ?_|refine Br.ny ?_|refine Br.nn ?_|refine Br.is (by assumption) ?_|refine Br.bF (by assumption) ?_|refine Ld.of (by assumption) ?_|refine Ru.ai ?_|refine Ru.n1 ?_|refine Ru.au ?_|refine Ru.e1 ?_|refine Ru.e2 ?_|refine Ru.e3 ?_|refine Ru.n2 ?_|refine Ru.n3 ?_|refine Ru.ax rfl ?_|refine Ru.aC rfl ?_|refine Ru.aE rfl (by decide) ?_|refine Ru.ay rfl (by decide) ?_|refine Ru.be ?_|refine Ru.bn ?_|refine Ad.be ?_|refine Ad.bn ?_|refine CW.s ?_);conv=>whnf)
 refine Ru.of (aem w3 _ _) ?_;conv=>whnf
 repeat ((first|refine HS.t ?_|refine Br.t ?_|refine Br.f ?_|refine Pk.f ?_|refine Pk.t ?_|refine Pk.and ?_|refine Pk.or ?_|refine Ix.n ?_|refine Ix.of _ (by rfl) (by omega) ?_|refine Ix.i ?_|refine Ar.la ?_|refine Ar.lb ?_|refine Ar.lc ?_|refine Dv.q ?_|refine Dv.r ?_|refine Br.y ?_|refine Br.n ?_|refine Br.ny ?_|refine Br.nn ?_|refine Br.is (by assumption) ?_|refine Br.bF (by assumption) ?_|refine Ld.of (by assumption) ?_|refine Ru.ai ?_|refine Ru.n1 ?_|refine Ru.au ?_|refine Ru.e1 ?_|refine Ru.e2 ?_|refine Ru.e3 ?_|refine Ru.n2 ?_|refine Ru.n3 ?_|refine Ru.ax rfl ?_|refine Ru.aC rfl ?_|refine Ru.aE rfl (by decide) ?_|refine Ru.ay rfl (by decide) ?_|refine Ru.be ?_|refine Ru.bn ?_|refine Ad.be ?_|refine Ad.bn ?_|refine CW.s ?_);conv=>whnf)
 refine CW.loop (ι:=Nat×CS) (fun i w'=>i.1<=Z.length/\i.1<=6/\Af w' own d ch K i.2 none/\i.2.pg=P.pg/\Row w' x9 28 24 (cH a)/\Aa [] w w')
  (fun i=>[(1,.slice C Z.length cC),(2,.slice E M.length cE),(7,.pointer (some ⟨ch,0,none⟩)),(8,.pointer (some ⟨d,0,none⟩)),(9,.pointer (some ⟨x9,0,none⟩)),(10,.int .i64 i.1)]) (fun i=>6-i.1) (0,P) ah
  ⟨by omega,by omega,D3,rfl,r93,bK⟩ ⟨rfl,rfl,rfl,rfl,rfl,rfl,trivial⟩ ?_;clear D3 r93 bK;rintro⟨i,Q⟩ wr ⟨hi,hi6,D,bG,r9,kk⟩;simp only at hi hi6 D bG r9 kk ⊢;have sb:w.heap.size<=ch:=nw _ D.jD.2;have af0:x9∉[ch]:=fun hm=>D.ck r9 (by decide) (by rw[List.mem_singleton.1 hm];exact D.jD.2);by_cases av:i<Z.length/\i<6
 ·obtain⟨av,hl6⟩:=av;have hZr:=hZ.aj kk;obtain⟨gz,oz,rfl,hcz⟩:=hZr (by omega);have cz:wr.cell? ⟨gz,oz+i,none⟩=some (.int .i64 (Z.getD i 0)):=hcz i av;have hgz:gz<w.heap.size:=by
   obtain⟨g',o',e',h'⟩:=hZ (by omega)
   cases e'
   exact aI (h' 0 (by omega))
  have hzw:=hZw _ (alf av);generalize Z.getD i 0=z at *;conv=>whnf
  repeat ((first|refine HS.t ?_|refine Br.t ?_|refine Br.f ?_|refine Pk.f ?_|refine Pk.t ?_|refine Pk.and ?_|refine Pk.or ?_|refine Ix.n ?_|refine Ix.of _ (by rfl) (by omega) ?_|refine Ix.i ?_|refine Ar.la ?_|refine Ar.lb ?_|refine Ar.lc ?_|refine Dv.q ?_|refine Dv.r ?_|refine Br.y ?_|refine Br.n ?_|refine Br.ny ?_|refine Br.nn ?_|refine Br.is (by assumption) ?_|refine Br.bF (by assumption) ?_|refine Ld.of (by assumption) ?_|refine Ru.ai ?_|refine Ru.n1 ?_|refine Ru.au ?_|refine Ru.e1 ?_|refine Ru.e2 ?_|refine Ru.e3 ?_|refine Ru.n2 ?_|refine Ru.n3 ?_|refine Ru.ax rfl ?_|refine Ru.aC rfl ?_|refine Ru.aE rfl (by decide) ?_|refine Ru.ay rfl (by decide) ?_|refine Ru.be ?_|refine Ru.bn ?_|refine Ad.be ?_|refine Ad.bn ?_|refine CW.s ?_);conv=>whnf)
  refine CW.held (fun w'=>w'.cell? ⟨gz,oz+i,none⟩=some (.int .i64 z)) [] (.take 0 (.take 1 (.take 2 (.take 3 (.take 4 (.take 6 (.take 7 (.take 8 (.take 9 (.take 10 (.one 5 (.one 11 (.one 12 (.done)))))))))))))) ah (by kernel_rfl) (by kernel_rfl) (by kernel_rfl) ?_ ?_
  ·exact cz
  have q1:=(Aa.refl [] wr).drewN 1;have D:=D.aj q1;have r9:=r9.ab q1 (by simp);have kk:=kk.trans q1;have cz:(wr.drewN 1).cell? ⟨gz,oz+i,none⟩=some (.int .i64 z):=cz;clear q1 hcz hZr;generalize wr.drewN 1=w2 at *;conv=>whnf
  repeat ((first|(refine Ix.of i (by omega) (by omega) ?_)|(refine Ah.at (by omega) (fun _ h=>h) ?_)|(refine Dv.aqN ?_)|refine HS.t ?_|refine Br.t ?_|refine Br.f ?_|refine Pk.f ?_|refine Pk.t ?_|refine Pk.and ?_|refine Pk.or ?_|refine Ix.n ?_|refine Ix.of _ (by rfl) (by omega) ?_|refine Ix.i ?_|refine Ar.la ?_|refine Ar.lb ?_|refine Ar.lc ?_|refine Dv.q ?_|refine Dv.r ?_|refine Br.y ?_|refine Br.n ?_|refine Br.ny ?_|refine Br.nn ?_|refine Br.is (by assumption) ?_|refine Br.bF (by assumption) ?_|refine Ld.of (by assumption) ?_|refine Ru.ai ?_|refine Ru.n1 ?_|refine Ru.au ?_|refine Ru.e1 ?_|refine Ru.e2 ?_|refine Ru.e3 ?_|refine Ru.n2 ?_|refine Ru.n3 ?_|refine Ru.ax rfl ?_|refine Ru.aC rfl ?_|refine Ru.aE rfl (by decide) ?_|refine Ru.ay rfl (by decide) ?_|refine Ru.be ?_|refine Ru.bn ?_|refine Ad.be ?_|refine Ad.bn ?_|refine CW.s ?_);conv=>whnf)
  refine Ca.of (bQ z 12 hzw (by omega) w2) ?_;rintro _ _ ⟨rfl,rfl⟩;refine⟨cz,?_⟩;conv=>whnf
  repeat ((first|refine HS.t ?_|refine Br.t ?_|refine Br.f ?_|refine Pk.f ?_|refine Pk.t ?_|refine Pk.and ?_|refine Pk.or ?_|refine Ix.n ?_|refine Ix.of _ (by rfl) (by omega) ?_|refine Ix.i ?_|refine Ar.la ?_|refine Ar.lb ?_|refine Ar.lc ?_|refine Dv.q ?_|refine Dv.r ?_|refine Br.y ?_|refine Br.n ?_|refine Br.ny ?_|refine Br.nn ?_|refine Br.is (by assumption) ?_|refine Br.bF (by assumption) ?_|refine Ld.of (by assumption) ?_|refine Ru.ai ?_|refine Ru.n1 ?_|refine Ru.au ?_|refine Ru.e1 ?_|refine Ru.e2 ?_|refine Ru.e3 ?_|refine Ru.n2 ?_|refine Ru.n3 ?_|refine Ru.ax rfl ?_|refine Ru.aC rfl ?_|refine Ru.aE rfl (by decide) ?_|refine Ru.ay rfl (by decide) ?_|refine Ru.be ?_|refine Ru.bn ?_|refine Ad.be ?_|refine Ad.bn ?_|refine CW.s ?_);conv=>whnf)
  refine Ca.of (bQ (iz (z.tdiv 12)) 9 (alg _) (by omega) w2) ?_;rintro _ _ ⟨rfl,rfl⟩;refine⟨cz,?_⟩;have hB:bA z 12<12:=dB _ (by omega);have hn9:bA (iz (z.tdiv 12)) 9<9:=dB _ (by omega);generalize bA (iz (z.tdiv 12)) 9=n9 at *;conv=>whnf
  repeat ((first|refine HS.t ?_|refine Br.t ?_|refine Br.f ?_|refine Pk.f ?_|refine Pk.t ?_|refine Pk.and ?_|refine Pk.or ?_|refine Ix.n ?_|refine Ix.of _ (by rfl) (by omega) ?_|refine Ix.i ?_|refine Ar.la ?_|refine Ar.lb ?_|refine Ar.lc ?_|refine Dv.q ?_|refine Dv.r ?_|refine Br.y ?_|refine Br.n ?_|refine Br.ny ?_|refine Br.nn ?_|refine Br.is (by assumption) ?_|refine Br.bF (by assumption) ?_|refine Ld.of (by assumption) ?_|refine Ru.ai ?_|refine Ru.n1 ?_|refine Ru.au ?_|refine Ru.e1 ?_|refine Ru.e2 ?_|refine Ru.e3 ?_|refine Ru.n2 ?_|refine Ru.n3 ?_|refine Ru.ax rfl ?_|refine Ru.aC rfl ?_|refine Ru.aE rfl (by decide) ?_|refine Ru.ay rfl (by decide) ?_|refine Ru.be ?_|refine Ru.bn ?_|refine Ad.be ?_|refine Ad.bn ?_|refine CW.s ?_);conv=>whnf)
  refine Ca.of (ajq D hB (n:=n9) (by omega)) ?_;rintro _ w3 ⟨rfl,D3,k3⟩;have hgc:gz∉[ch]:=fun hm=>by
   have:=List.mem_singleton.1 hm;omega
  have cz3:w3.cell? ⟨gz,oz+i,none⟩=some (.int .i64 z):=(k3.cell (aI cz) hgc).trans cz;have r93:=r9.ab k3 af0;have bK:=kk.then k3 (fun x hx=>.inr (by rw[List.mem_singleton.1 hx];exact sb));refine⟨cz3,?_⟩;conv=>whnf
  repeat ((first|(refine Ix.of i (by omega) (by omega) ?_)|(refine Ld.at (by omega) cz3 ?_)|refine HS.t ?_|refine Br.t ?_|refine Br.f ?_|refine Pk.f ?_|refine Pk.t ?_|refine Pk.and ?_|refine Pk.or ?_|refine Ix.n ?_|refine Ix.of _ (by rfl) (by omega) ?_|refine Ix.i ?_|refine Ar.la ?_|refine Ar.lb ?_|refine Ar.lc ?_|refine Dv.q ?_|refine Dv.r ?_|refine Br.y ?_|refine Br.n ?_|refine Br.ny ?_|refine Br.nn ?_|refine Br.is (by assumption) ?_|refine Br.bF (by assumption) ?_|refine Ld.of (by assumption) ?_|refine Ru.ai ?_|refine Ru.n1 ?_|refine Ru.au ?_|refine Ru.e1 ?_|refine Ru.e2 ?_|refine Ru.e3 ?_|refine Ru.n2 ?_|refine Ru.n3 ?_|refine Ru.ax rfl ?_|refine Ru.aC rfl ?_|refine Ru.aE rfl (by decide) ?_|refine Ru.ay rfl (by decide) ?_|refine Ru.be ?_|refine Ru.bn ?_|refine Ad.be ?_|refine Ad.bn ?_|refine CW.s ?_);conv=>whnf)
  refine Ca.of (bQ z 12 hzw (by omega) w3) ?_;rintro _ _ ⟨rfl,rfl⟩;conv=>whnf
  repeat ((first|refine HS.t ?_|refine Br.t ?_|refine Br.f ?_|refine Pk.f ?_|refine Pk.t ?_|refine Pk.and ?_|refine Pk.or ?_|refine Ix.n ?_|refine Ix.of _ (by rfl) (by omega) ?_|refine Ix.i ?_|refine Ar.la ?_|refine Ar.lb ?_|refine Ar.lc ?_|refine Dv.q ?_|refine Dv.r ?_|refine Br.y ?_|refine Br.n ?_|refine Br.ny ?_|refine Br.nn ?_|refine Br.is (by assumption) ?_|refine Br.bF (by assumption) ?_|refine Ld.of (by assumption) ?_|refine Ru.ai ?_|refine Ru.n1 ?_|refine Ru.au ?_|refine Ru.e1 ?_|refine Ru.e2 ?_|refine Ru.e3 ?_|refine Ru.n2 ?_|refine Ru.n3 ?_|refine Ru.ax rfl ?_|refine Ru.aC rfl ?_|refine Ru.aE rfl (by decide) ?_|refine Ru.ay rfl (by decide) ?_|refine Ru.be ?_|refine Ru.bn ?_|refine Ad.be ?_|refine Ad.bn ?_|refine CW.s ?_);conv=>whnf)
  refine Ca.of (afX D3 hB) ?_;rintro _ w4 ⟨rfl,D4,k4⟩;have r94:=r93.ab k4 af0;have bT:=bK.then k4 (fun x hx=>.inr (by rw[List.mem_singleton.1 hx];exact sb));conv=>whnf
  repeat ((first|refine HS.t ?_|refine Br.t ?_|refine Br.f ?_|refine Pk.f ?_|refine Pk.t ?_|refine Pk.and ?_|refine Pk.or ?_|refine Ix.n ?_|refine Ix.of _ (by rfl) (by omega) ?_|refine Ix.i ?_|refine Ar.la ?_|refine Ar.lb ?_|refine Ar.lc ?_|refine Dv.q ?_|refine Dv.r ?_|refine Br.y ?_|refine Br.n ?_|refine Br.ny ?_|refine Br.nn ?_|refine Br.is (by assumption) ?_|refine Br.bF (by assumption) ?_|refine Ld.of (by assumption) ?_|refine Ru.ai ?_|refine Ru.n1 ?_|refine Ru.au ?_|refine Ru.e1 ?_|refine Ru.e2 ?_|refine Ru.e3 ?_|refine Ru.n2 ?_|refine Ru.n3 ?_|refine Ru.ax rfl ?_|refine Ru.aC rfl ?_|refine Ru.aE rfl (by decide) ?_|refine Ru.ay rfl (by decide) ?_|refine Ru.be ?_|refine Ru.bn ?_|refine Ad.be ?_|refine Ad.bn ?_|refine CW.s ?_);conv=>whnf)
  exact⟨(i+1,_),⟨av,by simp only;omega,D4,bG,r94,bT⟩,⟨rfl,rfl,rfl,rfl,rfl,vi (by simp only;omega),trivial⟩,by simp only;omega⟩
 ·have W:∃k,Wi (qS a) k K Q:=⟨k,W.same bG W.hb W.cur rfl⟩;have si:=nw;clear bG hZ hZw hL hLw nw sb af0;rcases Nat.lt_or_ge i Z.length with hz|hz
  all_goals
   conv=>whnf
   repeat ((first|refine HS.t ?_|refine Br.t ?_|refine Br.f ?_|refine Pk.f ?_|refine Pk.t ?_|refine Pk.and ?_|refine Pk.or ?_|refine Ix.n ?_|refine Ix.of _ (by rfl) (by omega) ?_|refine Ix.i ?_|refine Ar.la ?_|refine Ar.lb ?_|refine Ar.lc ?_|refine Dv.q ?_|refine Dv.r ?_|refine Br.y ?_|refine Br.n ?_|refine Br.ny ?_|refine Br.nn ?_|refine Br.is (by assumption) ?_|refine Br.bF (by assumption) ?_|refine Ld.of (by assumption) ?_|refine Ru.ai ?_|refine Ru.n1 ?_|refine Ru.au ?_|refine Ru.e1 ?_|refine Ru.e2 ?_|refine Ru.e3 ?_|refine Ru.n2 ?_|refine Ru.n3 ?_|refine Ru.ax rfl ?_|refine Ru.aC rfl ?_|refine Ru.aE rfl (by decide) ?_|refine Ru.ay rfl (by decide) ?_|refine Ru.be ?_|refine Ru.bn ?_|refine Ad.be ?_|refine Ad.bn ?_|refine CW.s ?_);conv=>whnf)
   refine CW.loop (ι:=Nat×(Nat->Nat)×KS×CS×List Nat×Nat) (fun i w'=>i.1<=M.length/\i.1<=100/\(∀o,i.2.1 o<=1000000)/\Af w' i.2.2.2.2.1 i.2.2.2.2.2 ch i.2.2.1 i.2.2.2.1 none/\(∃k,Wi (qS i.2.1) k i.2.2.1 i.2.2.2.1)/\(∀x,x∈i.2.2.2.2.1->w.heap.size<=x)/\Row w' x9 28 24 (cH i.2.1)/\Aa [] w w')
    (fun i=>[(2,.slice E M.length cE),(7,.pointer (some ⟨ch,0,none⟩)),(8,.pointer (some ⟨i.2.2.2.2.2,0,none⟩)),(9,.pointer (some ⟨x9,0,none⟩)),(11,.int .i64 i.1)]) (fun i=>100-i.1) (0,a,K,Q,own,d) ah
    ⟨by omega,by omega,kL,D,W,si,r9,kk⟩ ⟨rfl,rfl,rfl,rfl,rfl,trivial⟩ ?_;clear kL D W si r9 kk hi hi6 hz av;rintro⟨j,a0,K0,P0,afQ,d0⟩ wr ⟨hj,apn,kL,D,⟨k0,W⟩,si,r9,kk⟩;simp only at hj apn kL D W si r9 kk ⊢;have sb:w.heap.size<=ch:=si _ D.jD.2;have af0:x9∉[ch]:=fun hm=>D.ck r9 (by decide) (by rw[List.mem_singleton.1 hm];exact D.jD.2);by_cases hjl:j<M.length/\j<100
   ·obtain⟨hjl,hj1⟩:=hjl;have hMr:=hM.aj kk;obtain⟨g,o,rfl,bu⟩:=aby hMr hjl;have hgw:g<w.heap.size:=by
     obtain⟨g',o',e',h'⟩:=hM (by omega)
     cases e'
     exact aI (h' 0 (by omega))
    have oA:=hMw _ (ajc hjl);generalize M.getD j ⟨0,0,0⟩=c at *;have c1:wr.cell? ⟨g,o+j*3+1,none⟩=some (.int .i64 c.a):=bu 1 (by omega);conv=>whnf
    repeat ((first|(refine Ix.of j (by omega) (by omega) ?_)|(refine Ld.at (by omega) c1 ?_)|refine HS.t ?_|refine Br.t ?_|refine Br.f ?_|refine Pk.f ?_|refine Pk.t ?_|refine Pk.and ?_|refine Pk.or ?_|refine Ix.n ?_|refine Ix.of _ (by rfl) (by omega) ?_|refine Ix.i ?_|refine Ar.la ?_|refine Ar.lb ?_|refine Ar.lc ?_|refine Dv.q ?_|refine Dv.r ?_|refine Br.y ?_|refine Br.n ?_|refine Br.ny ?_|refine Br.nn ?_|refine Br.is (by assumption) ?_|refine Br.bF (by assumption) ?_|refine Ld.of (by assumption) ?_|refine Ru.ai ?_|refine Ru.n1 ?_|refine Ru.au ?_|refine Ru.e1 ?_|refine Ru.e2 ?_|refine Ru.e3 ?_|refine Ru.n2 ?_|refine Ru.n3 ?_|refine Ru.ax rfl ?_|refine Ru.aC rfl ?_|refine Ru.aE rfl (by decide) ?_|refine Ru.ay rfl (by decide) ?_|refine Ru.be ?_|refine Ru.bn ?_|refine Ad.be ?_|refine Ad.bn ?_|refine CW.s ?_);conv=>whnf)
    refine Ca.of (bQ c.a 24 oA.2.1 (by omega) wr) ?_;rintro _ _ ⟨rfl,rfl⟩;conv=>whnf
    repeat ((first|refine HS.t ?_|refine Br.t ?_|refine Br.f ?_|refine Pk.f ?_|refine Pk.t ?_|refine Pk.and ?_|refine Pk.or ?_|refine Ix.n ?_|refine Ix.of _ (by rfl) (by omega) ?_|refine Ix.i ?_|refine Ar.la ?_|refine Ar.lb ?_|refine Ar.lc ?_|refine Dv.q ?_|refine Dv.r ?_|refine Br.y ?_|refine Br.n ?_|refine Br.ny ?_|refine Br.nn ?_|refine Br.is (by assumption) ?_|refine Br.bF (by assumption) ?_|refine Ld.of (by assumption) ?_|refine Ru.ai ?_|refine Ru.n1 ?_|refine Ru.au ?_|refine Ru.e1 ?_|refine Ru.e2 ?_|refine Ru.e3 ?_|refine Ru.n2 ?_|refine Ru.n3 ?_|refine Ru.ax rfl ?_|refine Ru.aC rfl ?_|refine Ru.aE rfl (by decide) ?_|refine Ru.ay rfl (by decide) ?_|refine Ru.be ?_|refine Ru.bn ?_|refine Ad.be ?_|refine Ad.bn ?_|refine CW.s ?_);conv=>whnf)
    refine CW.held (fun w'=>Row w' x9 28 24 (cH a0)/\∀j',j'<3->w'.cell? ⟨g,o+j*3+j',none⟩=some (c.cell j')) [] (.take 0 (.take 1 (.take 2 (.take 3 (.take 4 (.take 5 (.two 6 (.take 7 (.take 8 (.take 9 (.take 10 (.one 11 (.one 12 (.take 13 (.take 14 (.done))))))))) 11 (.one 6 (.take 7 (.take 8 (.take 9 (.take 10 (.one 12 (.take 13 (.take 14 (.done)))))))))))))))) ah (by kernel_rfl) (by kernel_rfl) (by kernel_rfl) ?_ ?_
    ·exact⟨Row.drewN r9 1,bu⟩
    have q1:=(Aa.refl [] wr).drewN 1;have D:=D.aj q1;have r9:=r9.ab q1 (by simp);have kk:=kk.trans q1;have hc:∀j',j'<3->(wr.drewN 1).cell? ⟨g,o+j*3+j',none⟩=some (c.cell j'):=bu;clear q1 bu hMr c1;generalize wr.drewN 1=w3 at *;have hgn:∀ {S:List Nat},(∀x,x∈S->w.heap.size<=x)->g∉S:=fun h hm=>by
     have:=h g hm;omega
    have gG:=kk.size;conv=>whnf
    repeat ((first|(refine Ad.of (fun w hS=>dL (q:=cH a0) hS.1 underlying28 rfl aB (by omega) (fun j hj=>by rw[Nat.zero_add])) ?_)|(refine Ix.of j (by omega) (by omega) ?_)|(refine Ad.of (fun w hS=>abz hS.2) ?_)|refine HS.t ?_|refine Br.t ?_|refine Br.f ?_|refine Pk.f ?_|refine Pk.t ?_|refine Pk.and ?_|refine Pk.or ?_|refine Ix.n ?_|refine Ix.of _ (by rfl) (by omega) ?_|refine Ix.i ?_|refine Ar.la ?_|refine Ar.lb ?_|refine Ar.lc ?_|refine Dv.q ?_|refine Dv.r ?_|refine Br.y ?_|refine Br.n ?_|refine Br.ny ?_|refine Br.nn ?_|refine Br.is (by assumption) ?_|refine Br.bF (by assumption) ?_|refine Ld.of (by assumption) ?_|refine Ru.ai ?_|refine Ru.n1 ?_|refine Ru.au ?_|refine Ru.e1 ?_|refine Ru.e2 ?_|refine Ru.e3 ?_|refine Ru.n2 ?_|refine Ru.n3 ?_|refine Ru.ax rfl ?_|refine Ru.aC rfl ?_|refine Ru.aE rfl (by decide) ?_|refine Ru.ay rfl (by decide) ?_|refine Ru.be ?_|refine Ru.bn ?_|refine Ad.be ?_|refine Ad.bn ?_|refine CW.s ?_);conv=>whnf)
    refine And.intro ?_ ?_
    case' refine_1 =>
     refine Ca.of (abE D W oA) ?_;rintro _ w4 ⟨k4,K',P',bP,a2,Y,n,e,er,rfl,D',W',sub,hC⟩;have r9:=r9.ab k4 (D.ck r9 (by decide));have hc:∀j',j'<3->w4.cell? ⟨g,o+j*3+j',none⟩=some (c.cell j'):=fun j hj=>(k4.cell (aI (hc j hj)) (hgn si)).trans (hc j hj);have ru:=k4.size;have kk:=kk.then k4 (fun x hx=>.inr (si x hx));have qn:∀x,x∈bP->w.heap.size<=x:=fun x hx=>by
      rcases sub x hx with y|y
      ·exact si x y
      ·omega
     refine⟨⟨r9,hc⟩,?_⟩;conv=>whnf
     repeat ((first|refine HS.t ?_|refine Br.t ?_|refine Br.f ?_|refine Pk.f ?_|refine Pk.t ?_|refine Pk.and ?_|refine Pk.or ?_|refine Ix.n ?_|refine Ix.of _ (by rfl) (by omega) ?_|refine Ix.i ?_|refine Ar.la ?_|refine Ar.lb ?_|refine Ar.lc ?_|refine Dv.q ?_|refine Dv.r ?_|refine Br.y ?_|refine Br.n ?_|refine Br.ny ?_|refine Br.nn ?_|refine Br.is (by assumption) ?_|refine Br.bF (by assumption) ?_|refine Ld.of (by assumption) ?_|refine Ru.ai ?_|refine Ru.n1 ?_|refine Ru.au ?_|refine Ru.e1 ?_|refine Ru.e2 ?_|refine Ru.e3 ?_|refine Ru.n2 ?_|refine Ru.n3 ?_|refine Ru.ax rfl ?_|refine Ru.aC rfl ?_|refine Ru.aE rfl (by decide) ?_|refine Ru.ay rfl (by decide) ?_|refine Ru.be ?_|refine Ru.bn ?_|refine Ad.be ?_|refine Ad.bn ?_|refine CW.s ?_);conv=>whnf)
     refine Ru.aF (cK w4) ?_;intro x13 w5 hx13 wu r13 k5;refine⟨⟨r9.ab k5 (by simp),fun j hj=>(k5.cell (aI (hc j hj)) (by simp)).trans (hc j hj)⟩,?_⟩;conv=>whnf
     repeat ((first|refine HS.t ?_|refine Br.t ?_|refine Br.f ?_|refine Pk.f ?_|refine Pk.t ?_|refine Pk.and ?_|refine Pk.or ?_|refine Ix.n ?_|refine Ix.of _ (by rfl) (by omega) ?_|refine Ix.i ?_|refine Ar.la ?_|refine Ar.lb ?_|refine Ar.lc ?_|refine Dv.q ?_|refine Dv.r ?_|refine Br.y ?_|refine Br.n ?_|refine Br.ny ?_|refine Br.nn ?_|refine Br.is (by assumption) ?_|refine Br.bF (by assumption) ?_|refine Ld.of (by assumption) ?_|refine Ru.ai ?_|refine Ru.n1 ?_|refine Ru.au ?_|refine Ru.e1 ?_|refine Ru.e2 ?_|refine Ru.e3 ?_|refine Ru.n2 ?_|refine Ru.n3 ?_|refine Ru.ax rfl ?_|refine Ru.aC rfl ?_|refine Ru.aE rfl (by decide) ?_|refine Ru.ay rfl (by decide) ?_|refine Ru.be ?_|refine Ru.bn ?_|refine Ad.be ?_|refine Ad.bn ?_|refine CW.s ?_);conv=>whnf)
     refine Ru.gY r13 aB (by omega) (fun j hj=>cr _ j) ?_;intro w6 r13b k6;have q6:Aa [] w4 w6:=k5.then k6 (fun x hx=>.inr (by rw[List.mem_singleton.1 hx,hx13];exact Nat.le_refl _));have D:=D'.aj q6;have r9:=r9.ab q6 (by simp);have kk:=kk.trans q6;have hC:CP a0 c w3 w6 a2 Y n e er:=by
      cases hC with
      |done h=>exact .done h
      |not h=>exact .not h
      |read h1 h2 h3 h4=>exact .read h1 (h2.aj q6) h3 h4
     have hc:∀j',j'<3->w6.cell? ⟨g,o+j*3+j',none⟩=some (c.cell j'):=fun j hj=>(q6.cell (aI (hc j hj)) (by simp)).trans (hc j hj);clear D' k4 k5 k6 q6 r13 ru wu hx13 sub;refine⟨⟨r9,hc⟩,?_⟩;conv=>whnf
     repeat ((first|refine HS.t ?_|refine Br.t ?_|refine Br.f ?_|refine Pk.f ?_|refine Pk.t ?_|refine Pk.and ?_|refine Pk.or ?_|refine Ix.n ?_|refine Ix.of _ (by rfl) (by omega) ?_|refine Ix.i ?_|refine Ar.la ?_|refine Ar.lb ?_|refine Ar.lc ?_|refine Dv.q ?_|refine Dv.r ?_|refine Br.y ?_|refine Br.n ?_|refine Br.ny ?_|refine Br.nn ?_|refine Br.is (by assumption) ?_|refine Br.bF (by assumption) ?_|refine Ld.of (by assumption) ?_|refine Ru.ai ?_|refine Ru.n1 ?_|refine Ru.au ?_|refine Ru.e1 ?_|refine Ru.e2 ?_|refine Ru.e3 ?_|refine Ru.n2 ?_|refine Ru.n3 ?_|refine Ru.ax rfl ?_|refine Ru.aC rfl ?_|refine Ru.aE rfl (by decide) ?_|refine Ru.ay rfl (by decide) ?_|refine Ru.be ?_|refine Ru.bn ?_|refine Ad.be ?_|refine Ad.bn ?_|refine CW.s ?_);conv=>whnf)
    case' refine_2 =>
     refine Ru.aF (cK w3) ?_;intro x13 w4 hx13 wu r13 k5;have hgx:g∉[x13]:=hgn (fun x hx=>by rw[List.mem_singleton.1 hx];omega);have hxn:x9≠x13:=by
      have:=r9.lt;omega
     have D:=D.aj k5;have r9:=r9.ab k5 (by simp);have hc:∀j',j'<3->w4.cell? ⟨g,o+j*3+j',none⟩=some (c.cell j'):=fun j hj=>(k5.cell (aI (hc j hj)) (by simp)).trans (hc j hj);have kk:=kk.trans k5;refine⟨⟨r9,hc⟩,?_⟩;conv=>whnf
     repeat ((first|refine HS.t ?_|refine Br.t ?_|refine Br.f ?_|refine Pk.f ?_|refine Pk.t ?_|refine Pk.and ?_|refine Pk.or ?_|refine Ix.n ?_|refine Ix.of _ (by rfl) (by omega) ?_|refine Ix.i ?_|refine Ar.la ?_|refine Ar.lb ?_|refine Ar.lc ?_|refine Dv.q ?_|refine Dv.r ?_|refine Br.y ?_|refine Br.n ?_|refine Br.ny ?_|refine Br.nn ?_|refine Br.is (by assumption) ?_|refine Br.bF (by assumption) ?_|refine Ld.of (by assumption) ?_|refine Ru.ai ?_|refine Ru.n1 ?_|refine Ru.au ?_|refine Ru.e1 ?_|refine Ru.e2 ?_|refine Ru.e3 ?_|refine Ru.n2 ?_|refine Ru.n3 ?_|refine Ru.ax rfl ?_|refine Ru.aC rfl ?_|refine Ru.aE rfl (by decide) ?_|refine Ru.ay rfl (by decide) ?_|refine Ru.be ?_|refine Ru.bn ?_|refine Ad.be ?_|refine Ad.bn ?_|refine CW.s ?_);conv=>whnf)
     refine Ca.of (abE D W oA) ?_;rintro _ w5 ⟨k4,K',P',bP,a2,Y,n,e,er,rfl,D',W',sub,hC⟩;have r9:=r9.ab k4 (D.ck r9 (by decide));have hc:∀j',j'<3->w5.cell? ⟨g,o+j*3+j',none⟩=some (c.cell j'):=fun j hj=>(k4.cell (aI (hc j hj)) (hgn si)).trans (hc j hj);have anx:=r13.ab k4 (D.ck r13 (by decide));have kk:=kk.then k4 (fun x hx=>.inr (si x hx));have qn:∀x,x∈bP->w.heap.size<=x:=fun x hx=>by
      rcases sub x hx with y|y
      ·exact si x y
      ·omega
     refine⟨⟨r9,hc⟩,?_⟩;conv=>whnf
     repeat ((first|refine HS.t ?_|refine Br.t ?_|refine Br.f ?_|refine Pk.f ?_|refine Pk.t ?_|refine Pk.and ?_|refine Pk.or ?_|refine Ix.n ?_|refine Ix.of _ (by rfl) (by omega) ?_|refine Ix.i ?_|refine Ar.la ?_|refine Ar.lb ?_|refine Ar.lc ?_|refine Dv.q ?_|refine Dv.r ?_|refine Br.y ?_|refine Br.n ?_|refine Br.ny ?_|refine Br.nn ?_|refine Br.is (by assumption) ?_|refine Br.bF (by assumption) ?_|refine Ld.of (by assumption) ?_|refine Ru.ai ?_|refine Ru.n1 ?_|refine Ru.au ?_|refine Ru.e1 ?_|refine Ru.e2 ?_|refine Ru.e3 ?_|refine Ru.n2 ?_|refine Ru.n3 ?_|refine Ru.ax rfl ?_|refine Ru.aC rfl ?_|refine Ru.aE rfl (by decide) ?_|refine Ru.ay rfl (by decide) ?_|refine Ru.be ?_|refine Ru.bn ?_|refine Ad.be ?_|refine Ad.bn ?_|refine CW.s ?_);conv=>whnf)
     refine Ru.gY anx aB (by omega) (fun j hj=>cr _ j) ?_;intro w6 r13b k6;have D:=D'.gr anx (by decide) k6;have r9:=r9.ab k6 (by simpa using hxn);have hc:∀j',j'<3->w6.cell? ⟨g,o+j*3+j',none⟩=some (c.cell j'):=fun j hj=>(k6.cell (aI (hc j hj)) hgx).trans (hc j hj);have kk:=kk.then k6 (fun x hx=>.inr (by rw[List.mem_singleton.1 hx];omega));have hC:CP a0 c w3 w6 a2 Y n e er:=by
      cases hC with
      |done h=>exact .done h
      |not h=>exact .not h
      | read h1 h2 h3 h4 =>
       refine .read h1 (h2.ab k6 (fun x hx hm=>?_)) (fun x hx=>?_) h4
       ·have:=h3 x hx;rw[List.mem_singleton.1 hm] at this;omega
       ·have:=h3 x hx;omega
     clear D' k4 k5 k6 r13 anx wu hx13 hxn hgx sub;refine⟨⟨r9,hc⟩,?_⟩;conv=>whnf
     repeat ((first|refine HS.t ?_|refine Br.t ?_|refine Br.f ?_|refine Pk.f ?_|refine Pk.t ?_|refine Pk.and ?_|refine Pk.or ?_|refine Ix.n ?_|refine Ix.of _ (by rfl) (by omega) ?_|refine Ix.i ?_|refine Ar.la ?_|refine Ar.lb ?_|refine Ar.lc ?_|refine Dv.q ?_|refine Dv.r ?_|refine Br.y ?_|refine Br.n ?_|refine Br.ny ?_|refine Br.nn ?_|refine Br.is (by assumption) ?_|refine Br.bF (by assumption) ?_|refine Ld.of (by assumption) ?_|refine Ru.ai ?_|refine Ru.n1 ?_|refine Ru.au ?_|refine Ru.e1 ?_|refine Ru.e2 ?_|refine Ru.e3 ?_|refine Ru.n2 ?_|refine Ru.n3 ?_|refine Ru.ax rfl ?_|refine Ru.aC rfl ?_|refine Ru.aE rfl (by decide) ?_|refine Ru.ay rfl (by decide) ?_|refine Ru.be ?_|refine Ru.bn ?_|refine Ad.be ?_|refine Ad.bn ?_|refine CW.s ?_);conv=>whnf)
    all_goals
     have r13:Row w6 x13 28 24 (cH (c.arr a0)):=r13b.congr (fun j hj=>by unfold lay;rw[if_pos (by omega),Nat.sub_zero]);have ha1:=kL (bA c.a 24);have js:bA c.a 24<24:=dB _ (by omega);have ca:=r9.cell (bA c.a 24) js;rcases hC with hE|hE | @⟨y,ye,yf,hE,hY,hYn,hYf⟩
     all_goals rw[hE] at W'
     case' done =>
      conv=>whnf
      repeat ((first|refine HS.t ?_|refine Br.t ?_|refine Br.f ?_|refine Pk.f ?_|refine Pk.t ?_|refine Pk.and ?_|refine Pk.or ?_|refine Ix.n ?_|refine Ix.of _ (by rfl) (by omega) ?_|refine Ix.i ?_|refine Ar.la ?_|refine Ar.lb ?_|refine Ar.lc ?_|refine Dv.q ?_|refine Dv.r ?_|refine Br.y ?_|refine Br.n ?_|refine Br.ny ?_|refine Br.nn ?_|refine Br.is (by assumption) ?_|refine Br.bF (by assumption) ?_|refine Ld.of (by assumption) ?_|refine Ru.ai ?_|refine Ru.n1 ?_|refine Ru.au ?_|refine Ru.e1 ?_|refine Ru.e2 ?_|refine Ru.e3 ?_|refine Ru.n2 ?_|refine Ru.n3 ?_|refine Ru.ax rfl ?_|refine Ru.aC rfl ?_|refine Ru.aE rfl (by decide) ?_|refine Ru.ay rfl (by decide) ?_|refine Ru.be ?_|refine Ru.bn ?_|refine Ad.be ?_|refine Ad.bn ?_|refine CW.s ?_);conv=>whnf)
      refine Ru.of (afY w6 _) ?_;conv=>whnf
      repeat ((first|refine HS.t ?_|refine Br.t ?_|refine Br.f ?_|refine Pk.f ?_|refine Pk.t ?_|refine Pk.and ?_|refine Pk.or ?_|refine Ix.n ?_|refine Ix.of _ (by rfl) (by omega) ?_|refine Ix.i ?_|refine Ar.la ?_|refine Ar.lb ?_|refine Ar.lc ?_|refine Dv.q ?_|refine Dv.r ?_|refine Br.y ?_|refine Br.n ?_|refine Br.ny ?_|refine Br.nn ?_|refine Br.is (by assumption) ?_|refine Br.bF (by assumption) ?_|refine Ld.of (by assumption) ?_|refine Ru.ai ?_|refine Ru.n1 ?_|refine Ru.au ?_|refine Ru.e1 ?_|refine Ru.e2 ?_|refine Ru.e3 ?_|refine Ru.n2 ?_|refine Ru.n3 ?_|refine Ru.ax rfl ?_|refine Ru.aC rfl ?_|refine Ru.aE rfl (by decide) ?_|refine Ru.ay rfl (by decide) ?_|refine Ru.be ?_|refine Ru.bn ?_|refine Ad.be ?_|refine Ad.bn ?_|refine CW.s ?_);conv=>whnf)
      refine Ru.cG (q:=cH (c.arr a0)) r13 underlying28 rfl aB (by omega) (fun j hj=>by rw[Nat.zero_add]) ?_;conv=>whnf
      repeat ((first|refine HS.t ?_|refine Br.t ?_|refine Br.f ?_|refine Pk.f ?_|refine Pk.t ?_|refine Pk.and ?_|refine Pk.or ?_|refine Ix.n ?_|refine Ix.of _ (by rfl) (by omega) ?_|refine Ix.i ?_|refine Ar.la ?_|refine Ar.lb ?_|refine Ar.lc ?_|refine Dv.q ?_|refine Dv.r ?_|refine Br.y ?_|refine Br.n ?_|refine Br.ny ?_|refine Br.nn ?_|refine Br.is (by assumption) ?_|refine Br.bF (by assumption) ?_|refine Ld.of (by assumption) ?_|refine Ru.ai ?_|refine Ru.n1 ?_|refine Ru.au ?_|refine Ru.e1 ?_|refine Ru.e2 ?_|refine Ru.e3 ?_|refine Ru.n2 ?_|refine Ru.n3 ?_|refine Ru.ax rfl ?_|refine Ru.aC rfl ?_|refine Ru.aE rfl (by decide) ?_|refine Ru.ay rfl (by decide) ?_|refine Ru.be ?_|refine Ru.bn ?_|refine Ad.be ?_|refine Ad.bn ?_|refine CW.s ?_);conv=>whnf)
      refine Ru.gY r9 aB (by omega) (fun j hj=>cr _ j) ?_;intro w7 r9b k7;have r97:Row w7 x9 28 24 (cH (c.arr a0)):=r9b.congr (fun j hj=>by unfold lay;rw[if_pos (by omega),Nat.sub_zero]);have D:=D.gr r9 (by decide) k7;have kk:=kk.then k7 (fun x hx=>.inr (by rw[List.mem_singleton.1 hx];exact aqO));have r9:=r97;have haN:=ajb kL c;clear hE r13 r9b r97 k7 ca;conv=>whnf
      repeat ((first|refine HS.t ?_|refine Br.t ?_|refine Br.f ?_|refine Pk.f ?_|refine Pk.t ?_|refine Pk.and ?_|refine Pk.or ?_|refine Ix.n ?_|refine Ix.of _ (by rfl) (by omega) ?_|refine Ix.i ?_|refine Ar.la ?_|refine Ar.lb ?_|refine Ar.lc ?_|refine Dv.q ?_|refine Dv.r ?_|refine Br.y ?_|refine Br.n ?_|refine Br.ny ?_|refine Br.nn ?_|refine Br.is (by assumption) ?_|refine Br.bF (by assumption) ?_|refine Ld.of (by assumption) ?_|refine Ru.ai ?_|refine Ru.n1 ?_|refine Ru.au ?_|refine Ru.e1 ?_|refine Ru.e2 ?_|refine Ru.e3 ?_|refine Ru.n2 ?_|refine Ru.n3 ?_|refine Ru.ax rfl ?_|refine Ru.aC rfl ?_|refine Ru.aE rfl (by decide) ?_|refine Ru.ay rfl (by decide) ?_|refine Ru.be ?_|refine Ru.bn ?_|refine Ad.be ?_|refine Ad.bn ?_|refine CW.s ?_);conv=>whnf)
     case' not =>
      conv=>whnf
      repeat ((first|refine HS.t ?_|refine Br.t ?_|refine Br.f ?_|refine Pk.f ?_|refine Pk.t ?_|refine Pk.and ?_|refine Pk.or ?_|refine Ix.n ?_|refine Ix.of _ (by rfl) (by omega) ?_|refine Ix.i ?_|refine Ar.la ?_|refine Ar.lb ?_|refine Ar.lc ?_|refine Dv.q ?_|refine Dv.r ?_|refine Br.y ?_|refine Br.n ?_|refine Br.ny ?_|refine Br.nn ?_|refine Br.is (by assumption) ?_|refine Br.bF (by assumption) ?_|refine Ld.of (by assumption) ?_|refine Ru.ai ?_|refine Ru.n1 ?_|refine Ru.au ?_|refine Ru.e1 ?_|refine Ru.e2 ?_|refine Ru.e3 ?_|refine Ru.n2 ?_|refine Ru.n3 ?_|refine Ru.ax rfl ?_|refine Ru.aC rfl ?_|refine Ru.aE rfl (by decide) ?_|refine Ru.ay rfl (by decide) ?_|refine Ru.be ?_|refine Ru.bn ?_|refine Ad.be ?_|refine Ad.bn ?_|refine CW.s ?_);conv=>whnf)
      have haN:=kL;clear hE r13 ca
     case' read =>
      conv=>whnf
      repeat ((first|refine HS.t ?_|refine Br.t ?_|refine Br.f ?_|refine Pk.f ?_|refine Pk.t ?_|refine Pk.and ?_|refine Pk.or ?_|refine Ix.n ?_|refine Ix.of _ (by rfl) (by omega) ?_|refine Ix.i ?_|refine Ar.la ?_|refine Ar.lb ?_|refine Ar.lc ?_|refine Dv.q ?_|refine Dv.r ?_|refine Br.y ?_|refine Br.n ?_|refine Br.ny ?_|refine Br.nn ?_|refine Br.is (by assumption) ?_|refine Br.bF (by assumption) ?_|refine Ld.of (by assumption) ?_|refine Ru.ai ?_|refine Ru.n1 ?_|refine Ru.au ?_|refine Ru.e1 ?_|refine Ru.e2 ?_|refine Ru.e3 ?_|refine Ru.n2 ?_|refine Ru.n3 ?_|refine Ru.ax rfl ?_|refine Ru.aC rfl ?_|refine Ru.aE rfl (by decide) ?_|refine Ru.ay rfl (by decide) ?_|refine Ru.be ?_|refine Ru.bn ?_|refine Ad.be ?_|refine Ad.bn ?_|refine CW.s ?_);conv=>whnf)
      refine Ru.of (afZ w6 _ _ _ _) ?_;have hYr:Rd w6 (some y) 160 (fun j=>.int .u8 ((xI (a0 (bA c.a 24)) j:Nat):Int)):=by
       have h3:=hY.rd;rw[Nat.mul_one] at h3;intro hp;obtain⟨g1,o1,e1,h4⟩:=h3 hp;refine⟨g1,o1,e1,fun j hj=>?_⟩;rw[h4 j hj];show some (Value.int .u8 ((yf j:Nat):Int))=_;rw[hYf j hj];rfl
      conv=>whnf
      repeat ((first|(refine Ix.of (bA c.a 24) (by omega) (by omega) ?_)|(refine Ld.at (by omega) ca ?_)|refine HS.t ?_|refine Br.t ?_|refine Br.f ?_|refine Pk.f ?_|refine Pk.t ?_|refine Pk.and ?_|refine Pk.or ?_|refine Ix.n ?_|refine Ix.of _ (by rfl) (by omega) ?_|refine Ix.i ?_|refine Ar.la ?_|refine Ar.lb ?_|refine Ar.lc ?_|refine Dv.q ?_|refine Dv.r ?_|refine Br.y ?_|refine Br.n ?_|refine Br.ny ?_|refine Br.nn ?_|refine Br.is (by assumption) ?_|refine Br.bF (by assumption) ?_|refine Ld.of (by assumption) ?_|refine Ru.ai ?_|refine Ru.n1 ?_|refine Ru.au ?_|refine Ru.e1 ?_|refine Ru.e2 ?_|refine Ru.e3 ?_|refine Ru.n2 ?_|refine Ru.n3 ?_|refine Ru.ax rfl ?_|refine Ru.aC rfl ?_|refine Ru.aE rfl (by decide) ?_|refine Ru.ay rfl (by decide) ?_|refine Ru.be ?_|refine Ru.bn ?_|refine Ad.be ?_|refine Ad.bn ?_|refine CW.s ?_);conv=>whnf)
      refine Ca.of (kx _ (by omega) w6) ?_;rintro _ w7 ⟨gb,rfl,sP,rb,k7⟩;conv=>whnf
      repeat ((first|refine HS.t ?_|refine Br.t ?_|refine Br.f ?_|refine Pk.f ?_|refine Pk.t ?_|refine Pk.and ?_|refine Pk.or ?_|refine Ix.n ?_|refine Ix.of _ (by rfl) (by omega) ?_|refine Ix.i ?_|refine Ar.la ?_|refine Ar.lb ?_|refine Ar.lc ?_|refine Dv.q ?_|refine Dv.r ?_|refine Br.y ?_|refine Br.n ?_|refine Br.ny ?_|refine Br.nn ?_|refine Br.is (by assumption) ?_|refine Br.bF (by assumption) ?_|refine Ld.of (by assumption) ?_|refine Ru.ai ?_|refine Ru.n1 ?_|refine Ru.au ?_|refine Ru.e1 ?_|refine Ru.e2 ?_|refine Ru.e3 ?_|refine Ru.n2 ?_|refine Ru.n3 ?_|refine Ru.ax rfl ?_|refine Ru.aC rfl ?_|refine Ru.aE rfl (by decide) ?_|refine Ru.ay rfl (by decide) ?_|refine Ru.be ?_|refine Ru.bn ?_|refine Ad.be ?_|refine Ad.bn ?_|refine CW.s ?_);conv=>whnf)
      refine Ca.of (qQ _ _ 160 160 _ _ (fun j=>((xI (a0 (bA c.a 24)) j:Nat):Int)) (fun j=>((xI (a0 (bA c.a 24)) j:Nat):Int)) w7 (hYr.aj k7) (Rd.dh rb (n:=160) (by omega)) (fun j=>by have:=mF (a0 (bA c.a 24)) j;omega) (fun j=>by have:=mF (a0 (bA c.a 24)) j;omega)) ?_;rintro _ _ ⟨rfl,rfl⟩;rw[jM rfl (fun _ _=>rfl)];have D:=D.aj k7;have r9:=r9.ab k7 (by simp);have kk:=kk.trans k7;have haN:=kL;clear hE hY hYn hYf hYr rb k7 ca r13;conv=>whnf
      repeat ((first|refine HS.t ?_|refine Br.t ?_|refine Br.f ?_|refine Pk.f ?_|refine Pk.t ?_|refine Pk.and ?_|refine Pk.or ?_|refine Ix.n ?_|refine Ix.of _ (by rfl) (by omega) ?_|refine Ix.i ?_|refine Ar.la ?_|refine Ar.lb ?_|refine Ar.lc ?_|refine Dv.q ?_|refine Dv.r ?_|refine Br.y ?_|refine Br.n ?_|refine Br.ny ?_|refine Br.nn ?_|refine Br.is (by assumption) ?_|refine Br.bF (by assumption) ?_|refine Ld.of (by assumption) ?_|refine Ru.ai ?_|refine Ru.n1 ?_|refine Ru.au ?_|refine Ru.e1 ?_|refine Ru.e2 ?_|refine Ru.e3 ?_|refine Ru.n2 ?_|refine Ru.n3 ?_|refine Ru.ax rfl ?_|refine Ru.aC rfl ?_|refine Ru.aE rfl (by decide) ?_|refine Ru.ay rfl (by decide) ?_|refine Ru.be ?_|refine Ru.bn ?_|refine Ad.be ?_|refine Ad.bn ?_|refine CW.s ?_);conv=>whnf)
     all_goals
      by_cases h17:j%17=16
      ·have e17:decide (((j:Nat):Int)%17=16)=true:=decide_eq_true (by omega);obtain⟨Ch,H,hA,hl⟩:=D.dz;obtain⟨k',DM⟩:=W';conv=>whnf
       repeat ((first|(refine Br.is e17 ?_)|refine HS.t ?_|refine Br.t ?_|refine Br.f ?_|refine Pk.f ?_|refine Pk.t ?_|refine Pk.and ?_|refine Pk.or ?_|refine Ix.n ?_|refine Ix.of _ (by rfl) (by omega) ?_|refine Ix.i ?_|refine Ar.la ?_|refine Ar.lb ?_|refine Ar.lc ?_|refine Dv.q ?_|refine Dv.r ?_|refine Br.y ?_|refine Br.n ?_|refine Br.ny ?_|refine Br.nn ?_|refine Br.is (by assumption) ?_|refine Br.bF (by assumption) ?_|refine Ld.of (by assumption) ?_|refine Ru.ai ?_|refine Ru.n1 ?_|refine Ru.au ?_|refine Ru.e1 ?_|refine Ru.e2 ?_|refine Ru.e3 ?_|refine Ru.n2 ?_|refine Ru.n3 ?_|refine Ru.ax rfl ?_|refine Ru.aC rfl ?_|refine Ru.aE rfl (by decide) ?_|refine Ru.ay rfl (by decide) ?_|refine Ru.be ?_|refine Ru.bn ?_|refine Ad.be ?_|refine Ad.bn ?_|refine CW.s ?_);conv=>whnf)
       refine Ca.of (u6 H hA hl DM.tw) ?_;rintro _ w8 ⟨k8,d8,aqP,rfl,⟨K8,P8,D8,W8,-⟩,h8⟩;have r98:=r9.ab k8 af0;have hs8:=kk.size;have pK:=kk.then k8 (fun x hx=>.inr (by rw[List.mem_singleton.1 hx];exact sb));conv=>whnf
       repeat ((first|refine HS.t ?_|refine Br.t ?_|refine Br.f ?_|refine Pk.f ?_|refine Pk.t ?_|refine Pk.and ?_|refine Pk.or ?_|refine Ix.n ?_|refine Ix.of _ (by rfl) (by omega) ?_|refine Ix.i ?_|refine Ar.la ?_|refine Ar.lb ?_|refine Ar.lc ?_|refine Dv.q ?_|refine Dv.r ?_|refine Br.y ?_|refine Br.n ?_|refine Br.ny ?_|refine Br.nn ?_|refine Br.is (by assumption) ?_|refine Br.bF (by assumption) ?_|refine Ld.of (by assumption) ?_|refine Ru.ai ?_|refine Ru.n1 ?_|refine Ru.au ?_|refine Ru.e1 ?_|refine Ru.e2 ?_|refine Ru.e3 ?_|refine Ru.n2 ?_|refine Ru.n3 ?_|refine Ru.ax rfl ?_|refine Ru.aC rfl ?_|refine Ru.aE rfl (by decide) ?_|refine Ru.ay rfl (by decide) ?_|refine Ru.be ?_|refine Ru.bn ?_|refine Ad.be ?_|refine Ad.bn ?_|refine CW.s ?_);conv=>whnf)
       refine Ru.of (mG w8 _ _) ?_;conv=>whnf
       repeat ((first|refine HS.t ?_|refine Br.t ?_|refine Br.f ?_|refine Pk.f ?_|refine Pk.t ?_|refine Pk.and ?_|refine Pk.or ?_|refine Ix.n ?_|refine Ix.of _ (by rfl) (by omega) ?_|refine Ix.i ?_|refine Ar.la ?_|refine Ar.lb ?_|refine Ar.lc ?_|refine Dv.q ?_|refine Dv.r ?_|refine Br.y ?_|refine Br.n ?_|refine Br.ny ?_|refine Br.nn ?_|refine Br.is (by assumption) ?_|refine Br.bF (by assumption) ?_|refine Ld.of (by assumption) ?_|refine Ru.ai ?_|refine Ru.n1 ?_|refine Ru.au ?_|refine Ru.e1 ?_|refine Ru.e2 ?_|refine Ru.e3 ?_|refine Ru.n2 ?_|refine Ru.n3 ?_|refine Ru.ax rfl ?_|refine Ru.aC rfl ?_|refine Ru.aE rfl (by decide) ?_|refine Ru.ay rfl (by decide) ?_|refine Ru.be ?_|refine Ru.bn ?_|refine Ad.be ?_|refine Ad.bn ?_|refine CW.s ?_);conv=>whnf)
       exact⟨(j+1,_,K8,P8,aqP,d8),⟨hjl,by simp only;omega,haN,D8,W8,fun x hx=>by rcases h8 x hx with h|h<;>omega,r98,pK⟩,⟨rfl,rfl,rfl,rfl,vi (by simp only;omega),trivial⟩,by simp only;omega⟩
      ·have e17:decide (((j:Nat):Int)%17=16)=false:=decide_eq_false (by omega);conv=>whnf
       repeat ((first|(refine Br.bF e17 ?_)|refine HS.t ?_|refine Br.t ?_|refine Br.f ?_|refine Pk.f ?_|refine Pk.t ?_|refine Pk.and ?_|refine Pk.or ?_|refine Ix.n ?_|refine Ix.of _ (by rfl) (by omega) ?_|refine Ix.i ?_|refine Ar.la ?_|refine Ar.lb ?_|refine Ar.lc ?_|refine Dv.q ?_|refine Dv.r ?_|refine Br.y ?_|refine Br.n ?_|refine Br.ny ?_|refine Br.nn ?_|refine Br.is (by assumption) ?_|refine Br.bF (by assumption) ?_|refine Ld.of (by assumption) ?_|refine Ru.ai ?_|refine Ru.n1 ?_|refine Ru.au ?_|refine Ru.e1 ?_|refine Ru.e2 ?_|refine Ru.e3 ?_|refine Ru.n2 ?_|refine Ru.n3 ?_|refine Ru.ax rfl ?_|refine Ru.aC rfl ?_|refine Ru.aE rfl (by decide) ?_|refine Ru.ay rfl (by decide) ?_|refine Ru.be ?_|refine Ru.bn ?_|refine Ad.be ?_|refine Ad.bn ?_|refine CW.s ?_);conv=>whnf)
       exact⟨(j+1,_,K',P',bP,d0),⟨hjl,by simp only;omega,haN,D,W',qn,r9,kk⟩,⟨rfl,rfl,rfl,rfl,vi (by simp only;omega),trivial⟩,by simp only;omega⟩
   ·rcases Nat.lt_or_ge j M.length with hz|hz
    all_goals
     conv=>whnf
     repeat ((first|refine HS.t ?_|refine Br.t ?_|refine Br.f ?_|refine Pk.f ?_|refine Pk.t ?_|refine Pk.and ?_|refine Pk.or ?_|refine Ix.n ?_|refine Ix.of _ (by rfl) (by omega) ?_|refine Ix.i ?_|refine Ar.la ?_|refine Ar.lb ?_|refine Ar.lc ?_|refine Dv.q ?_|refine Dv.r ?_|refine Br.y ?_|refine Br.n ?_|refine Br.ny ?_|refine Br.nn ?_|refine Br.is (by assumption) ?_|refine Br.bF (by assumption) ?_|refine Ld.of (by assumption) ?_|refine Ru.ai ?_|refine Ru.n1 ?_|refine Ru.au ?_|refine Ru.e1 ?_|refine Ru.e2 ?_|refine Ru.e3 ?_|refine Ru.n2 ?_|refine Ru.n3 ?_|refine Ru.ax rfl ?_|refine Ru.aC rfl ?_|refine Ru.aE rfl (by decide) ?_|refine Ru.ay rfl (by decide) ?_|refine Ru.be ?_|refine Ru.bn ?_|refine Ad.be ?_|refine Ad.bn ?_|refine CW.s ?_);conv=>whnf)
     refine Ru.cG (q:=cH a0) r9 underlying28 rfl aB (by omega) (fun j hj=>by rw[Nat.zero_add]) ?_;conv=>whnf
     repeat ((first|refine HS.t ?_|refine Br.t ?_|refine Br.f ?_|refine Pk.f ?_|refine Pk.t ?_|refine Pk.and ?_|refine Pk.or ?_|refine Ix.n ?_|refine Ix.of _ (by rfl) (by omega) ?_|refine Ix.i ?_|refine Ar.la ?_|refine Ar.lb ?_|refine Ar.lc ?_|refine Dv.q ?_|refine Dv.r ?_|refine Br.y ?_|refine Br.n ?_|refine Br.ny ?_|refine Br.nn ?_|refine Br.is (by assumption) ?_|refine Br.bF (by assumption) ?_|refine Ld.of (by assumption) ?_|refine Ru.ai ?_|refine Ru.n1 ?_|refine Ru.au ?_|refine Ru.e1 ?_|refine Ru.e2 ?_|refine Ru.e3 ?_|refine Ru.n2 ?_|refine Ru.n3 ?_|refine Ru.ax rfl ?_|refine Ru.aC rfl ?_|refine Ru.aE rfl (by decide) ?_|refine Ru.ay rfl (by decide) ?_|refine Ru.be ?_|refine Ru.bn ?_|refine Ad.be ?_|refine Ad.bn ?_|refine CW.s ?_);conv=>whnf)
     refine Ca.of (rM D W kL) ?_;rintro _ w5 ⟨rfl,K5,P5,ark,PW⟩;have rI:=r9.ab PW.kk (D.ck r9 (by decide));have dE:=kk.then PW.kk (fun x hx=>.inr (si x hx));obtain⟨Ch,H,hA,hl⟩:=PW.on.dz;obtain⟨k',W5⟩:=PW.wi;conv=>whnf
     repeat ((first|refine HS.t ?_|refine Br.t ?_|refine Br.f ?_|refine Pk.f ?_|refine Pk.t ?_|refine Pk.and ?_|refine Pk.or ?_|refine Ix.n ?_|refine Ix.of _ (by rfl) (by omega) ?_|refine Ix.i ?_|refine Ar.la ?_|refine Ar.lb ?_|refine Ar.lc ?_|refine Dv.q ?_|refine Dv.r ?_|refine Br.y ?_|refine Br.n ?_|refine Br.ny ?_|refine Br.nn ?_|refine Br.is (by assumption) ?_|refine Br.bF (by assumption) ?_|refine Ld.of (by assumption) ?_|refine Ru.ai ?_|refine Ru.n1 ?_|refine Ru.au ?_|refine Ru.e1 ?_|refine Ru.e2 ?_|refine Ru.e3 ?_|refine Ru.n2 ?_|refine Ru.n3 ?_|refine Ru.ax rfl ?_|refine Ru.aC rfl ?_|refine Ru.aE rfl (by decide) ?_|refine Ru.ay rfl (by decide) ?_|refine Ru.be ?_|refine Ru.bn ?_|refine Ad.be ?_|refine Ad.bn ?_|refine CW.s ?_);conv=>whnf)
     refine Ca.of (u6 H hA hl W5.tw) ?_;rintro _ w6 ⟨k6,d6,anr,rfl,⟨K6,P6,D6,⟨k6',W6⟩,-⟩,h6⟩;have r96:=rI.ab k6 af0;have hs6:=dE.size;have fX:=dE.then k6 (fun x hx=>.inr (by rw[List.mem_singleton.1 hx];exact sb));conv=>whnf
     repeat ((first|refine HS.t ?_|refine Br.t ?_|refine Br.f ?_|refine Pk.f ?_|refine Pk.t ?_|refine Pk.and ?_|refine Pk.or ?_|refine Ix.n ?_|refine Ix.of _ (by rfl) (by omega) ?_|refine Ix.i ?_|refine Ar.la ?_|refine Ar.lb ?_|refine Ar.lc ?_|refine Dv.q ?_|refine Dv.r ?_|refine Br.y ?_|refine Br.n ?_|refine Br.ny ?_|refine Br.nn ?_|refine Br.is (by assumption) ?_|refine Br.bF (by assumption) ?_|refine Ld.of (by assumption) ?_|refine Ru.ai ?_|refine Ru.n1 ?_|refine Ru.au ?_|refine Ru.e1 ?_|refine Ru.e2 ?_|refine Ru.e3 ?_|refine Ru.n2 ?_|refine Ru.n3 ?_|refine Ru.ax rfl ?_|refine Ru.aC rfl ?_|refine Ru.aE rfl (by decide) ?_|refine Ru.ay rfl (by decide) ?_|refine Ru.be ?_|refine Ru.bn ?_|refine Ad.be ?_|refine Ad.bn ?_|refine CW.s ?_);conv=>whnf)
     refine Ru.of (mG w6 _ _) ?_;conv=>whnf
     repeat ((first|refine HS.t ?_|refine Br.t ?_|refine Br.f ?_|refine Pk.f ?_|refine Pk.t ?_|refine Pk.and ?_|refine Pk.or ?_|refine Ix.n ?_|refine Ix.of _ (by rfl) (by omega) ?_|refine Ix.i ?_|refine Ar.la ?_|refine Ar.lb ?_|refine Ar.lc ?_|refine Dv.q ?_|refine Dv.r ?_|refine Br.y ?_|refine Br.n ?_|refine Br.ny ?_|refine Br.nn ?_|refine Br.is (by assumption) ?_|refine Br.bF (by assumption) ?_|refine Ld.of (by assumption) ?_|refine Ru.ai ?_|refine Ru.n1 ?_|refine Ru.au ?_|refine Ru.e1 ?_|refine Ru.e2 ?_|refine Ru.e3 ?_|refine Ru.n2 ?_|refine Ru.n3 ?_|refine Ru.ax rfl ?_|refine Ru.aC rfl ?_|refine Ru.aE rfl (by decide) ?_|refine Ru.ay rfl (by decide) ?_|refine Ru.be ?_|refine Ru.bn ?_|refine Ad.be ?_|refine Ad.bn ?_|refine CW.s ?_);conv=>whnf)
     refine Ru.cG (q:=cH a0) r96 underlying28 rfl aB (by omega) (fun j hj=>by rw[Nat.zero_add]) ?_;conv=>whnf
     repeat ((first|refine HS.t ?_|refine Br.t ?_|refine Br.f ?_|refine Pk.f ?_|refine Pk.t ?_|refine Pk.and ?_|refine Pk.or ?_|refine Ix.n ?_|refine Ix.of _ (by rfl) (by omega) ?_|refine Ix.i ?_|refine Ar.la ?_|refine Ar.lb ?_|refine Ar.lc ?_|refine Dv.q ?_|refine Dv.r ?_|refine Br.y ?_|refine Br.n ?_|refine Br.ny ?_|refine Br.nn ?_|refine Br.is (by assumption) ?_|refine Br.bF (by assumption) ?_|refine Ld.of (by assumption) ?_|refine Ru.ai ?_|refine Ru.n1 ?_|refine Ru.au ?_|refine Ru.e1 ?_|refine Ru.e2 ?_|refine Ru.e3 ?_|refine Ru.n2 ?_|refine Ru.n3 ?_|refine Ru.ax rfl ?_|refine Ru.aC rfl ?_|refine Ru.aE rfl (by decide) ?_|refine Ru.ay rfl (by decide) ?_|refine Ru.be ?_|refine Ru.bn ?_|refine Ad.be ?_|refine Ad.bn ?_|refine CW.s ?_);conv=>whnf)
     refine Ca.of (rM D6 W6 kL) ?_;rintro _ w7 ⟨rfl,K7,P7,arl,DN⟩;conv=>whnf
     repeat ((first|refine HS.t ?_|refine Br.t ?_|refine Br.f ?_|refine Pk.f ?_|refine Pk.t ?_|refine Pk.and ?_|refine Pk.or ?_|refine Ix.n ?_|refine Ix.of _ (by rfl) (by omega) ?_|refine Ix.i ?_|refine Ar.la ?_|refine Ar.lb ?_|refine Ar.lc ?_|refine Dv.q ?_|refine Dv.r ?_|refine Br.y ?_|refine Br.n ?_|refine Br.ny ?_|refine Br.nn ?_|refine Br.is (by assumption) ?_|refine Br.bF (by assumption) ?_|refine Ld.of (by assumption) ?_|refine Ru.ai ?_|refine Ru.n1 ?_|refine Ru.au ?_|refine Ru.e1 ?_|refine Ru.e2 ?_|refine Ru.e3 ?_|refine Ru.n2 ?_|refine Ru.n3 ?_|refine Ru.ax rfl ?_|refine Ru.aC rfl ?_|refine Ru.aE rfl (by decide) ?_|refine Ru.ay rfl (by decide) ?_|refine Ru.be ?_|refine Ru.bn ?_|refine Ad.be ?_|refine Ad.bn ?_|refine CW.s ?_);conv=>whnf)
     exact⟨rfl,rfl,fX.then DN.kk (fun x hx=>.inr (by rcases h6 x hx with h|h<;>omega))⟩
end
section
open Go.RowKit Go.ChangeShapes Go.WideShapes Go.ChangeAt
namespace Bulk
theorem one_le{H:Type}(d:DataW H):1<=Rows.uptoBulk d:=by
 cases d with
 |lit l=>cases l<;>simp[Rows.uptoBulk]
 |nil=>simp[Rows.uptoBulk]
 |ptr d=>simp[Rows.uptoBulk]
 |slice elems spare=>simp[Rows.uptoBulk]
 |agg parts=>simp[Rows.uptoBulk]
 |iface t d=>simp[Rows.uptoBulk]
 |map entries=>simp[Rows.uptoBulk]
 |held h=>simp[Rows.uptoBulk]
theorem aep{H:Type}{d:DataW H}{l:List (DataW H)}(h:d∈l):Rows.uptoBulk d<=Rows.uptoBulkAll l:=by
 induction l with
 |nil=>cases h
 | cons x r ih =>
  simp only[Rows.uptoBulkAll]
  cases List.mem_cons.1 h with
  |inl e=>subst e;omega
  |inr e=>have:=ih e;omega
theorem length_le{H:Type}(l:List (DataW H)):l.length<=Rows.uptoBulkAll l:=by
 induction l with
 |nil=>simp[Rows.uptoBulkAll]
 |cons x r ih=>have:=one_le x;simp only[Rows.uptoBulkAll,List.length_cons];omega
theorem abF{H:Type}(elems spare:List (DataW H)):elems.length+spare.length+1<=Rows.uptoBulk (.slice elems spare):=by
 have h1:=length_le elems;have h2:=length_le spare;simp only[Rows.uptoBulk];omega
theorem bound{H:Type}{l:List (DataW H)}(hk:Rows.uptoSmall H l=true):Rows.uptoBulkAll l<=1048576:=of_decide_eq_true hk
end Bulk
theorem ajs{H:Type}{enc:TypeId×Value->H}{P:Program}{W:World}{base:Nat}{spare:Nat->Bool}{held:Bool}{t e:TypeId}{k:IntKind}{a:Option Addr}{len cap:Nat}{d:DataW H}{ps:List MemPlace}{ds:List (DataW H)}{j:Nat}
  (hk:Rows.uptoSmall H ds=true) (hd:ds[j]?=some d) (hu:P.underlying t=some (.slice e)) (he:P.underlying e=some (.int k)) (hc:P.cellsOf e=1)
  (h:DataW.Trod enc P W base spare held t (.slice a len cap) d ps):len<=1048576:=by
 obtain⟨fuel,hf⟩:=h;rcases open_ints hu he hc hf with⟨lq,_⟩|⟨x,l,c,zs,lq,_,hl,_,hz,hx,_,_⟩
 ·simp[Value.cells] at lq;obtain⟨_,rfl,_⟩:=lq;simp
 ·simp[Value.cells] at lq;obtain⟨rfl,rfl,rfl⟩:=lq;obtain⟨hx,_⟩:=Prod.mk.inj hx;subst hx;have hl2:len<=zs.length:=by
   rw[hz];split
   ·exact hl
   ·exact Nat.le_refl _
  have h1:(lits (H:=H) k (zs.take len)).length+(lits (H:=H) k (zs.drop len)).length=zs.length:=by
   simp[lits];omega
  have h2:=Bulk.abF (lits (H:=H) k (zs.take len)) (lits (H:=H) k (zs.drop len));have h3:=Bulk.aep (List.mem_of_getElem? hd);have h4:=Bulk.bound hk;omega
end
section
open Go.RowKit Go.ChangeShapes Go.WideShapes Go.Deep
section
variable{H:Type}{enc:TypeId×Value->H}{P:Program}{W:World}{base:Nat}{spare:Nat->Bool}{held:Bool}{t e:TypeId}{fs:Array Field}{a:Option Addr}{len cap C:Nat}{d:DataW H}{ps:List MemPlace}
theorem nT(ht:P.underlying t=some (.slice e))(he:P.underlying e=some (.struct fs))(alG:oneCellFields P fs=true)(hC:P.cellsOf e=C)(hfs:fs.size=C)(h:DataW.Trod enc P W base spare held t (.slice a len cap) d ps) :
  len<=cap/\cap<=maxLen/\(a=none->cap=0)/\∃F:Nat->Nat->Value,Rd W a (len*C) (fun q=>F (q/C) (q%C)) /\
   ∀i,i<len->∀(j:Nat) (f:Field),fs[j]?=some f->∃n y,DataW.trod enc P W base spare held n f.type [F i j]=some y:=by
 obtain⟨fuel,hf⟩:=h;rcases open_slice ht hf with⟨lq,_⟩|⟨x,l,c,m,n,D,Pl,lq,_,hl,hm,hmm,_,hi⟩
 ·simp[Value.cells] at lq;obtain⟨rfl,rfl,rfl⟩:=lq;exact⟨Nat.le_refl _,by simp[maxLen],fun _=>rfl,fun _ _=>.nilIface,by rw[Nat.zero_mul];exact Rd.nil _ _ _,fun i h=>absurd h (by omega)⟩
 ·simp[Value.cells] at lq;obtain⟨rfl,rfl,rfl⟩:=lq;have hlm:len<=m:=by
   rw[hmm];split
   ·exact hl
   ·exact Nat.le_refl _
  refine⟨hl,hm,fun h=>by simp at h,fun i j=>(W.cell? (x.add (i*C+j))).getD .nilIface,?_,?_⟩
  ·intro hn;have hC0:0<C:=by
    rcases Nat.eq_zero_or_pos C with h0|h0
    ·rw[h0] at hn;simp at hn
    ·exact h0
   have hl0:0<len:=by
    rcases Nat.eq_zero_or_pos len with h0|h0
    ·rw[h0] at hn;simp at hn
    ·exact h0
   have adD:∀i,i<len->∀j,j<C->∃v,W.cell? (x.add (i*C+j))=some v:=by
    intro i h1 j h2;obtain⟨cs',hc,_⟩:=hi i (by omega);rw[hC] at hc;obtain⟨_,hcl,dC⟩:=World.cells?_some hc;have:=dC j h2;rw[Go.Deep.add_add] at this;rw[this];exact⟨_,List.getElem?_eq_getElem (by omega)⟩
   obtain⟨v0,h00⟩:=adD 0 hl0 0 hC0;have hs:=oS h00;have fE:x.spot=none:=by
    unfold Addr.add at hs;simpa using hs
   refine⟨x.block,x.off,?_,fun q hq=>?_⟩
   ·obtain⟨b,o,s⟩:=x;simp at fE;subst fE;rfl
   ·have h1:q/C<len:=Nat.div_lt_of_lt_mul (by rw[Nat.mul_comm];exact hq);have h2:q%C<C:=Nat.mod_lt _ hC0;obtain⟨v,hv⟩:=adD (q/C) h1 (q%C) h2;have e1:q/C*C+q%C=q:=by rw[Nat.mul_comm];exact Nat.div_add_mod q C
    rw[e1] at hv;rw[<-fG fE q];show _=some ((W.cell? (x.add (q/C*C+q%C))).getD .nilIface);rw[e1,hv];rfl
  ·intro i h1 j f hj;have hjl:j<fs.size:=(Array.getElem?_eq_some_iff.1 hj).1;obtain⟨cs',hc,ht'⟩:=hi i (by omega);rw[hC] at hc;obtain⟨ys,n',_,_,_,hyl,hff⟩:=DataW.trod_struct he ht';obtain⟨_,hcl,dC⟩:=World.cells?_some hc;obtain⟨ho,hk⟩:=hone_of alG j f hj;have h3:=hff j f hj;rw[ho,hk] at h3;have mK:j<cs'.length:=by omega
   rw[List.drop_eq_getElem_cons mK] at h3;simp only[List.take_succ_cons,List.take_zero] at h3;have h4:=dC j (by omega);rw[Go.Deep.add_add,List.getElem?_eq_getElem mK] at h4;refine⟨n',ys[j]'(by omega),?_⟩
   ·show DataW.trod enc P W base spare held n' f.type [(W.cell? (x.add (i*C+j))).getD .nilIface]=_;rw[h4];simp only[Option.getD_some];rw[h3];exact List.getElem?_eq_getElem _
theorem nU{ts:List TypeId}{ds:List (DataW H)}{j B:Nat}(sQ:(DataW.weightsEach P ts ds).all (· <= reachBytes)=true)(hj:ts[j]?=some t)(hd:ds[j]?=some d)(ht:P.underlying t=some (.slice e))(hB:P.bytesOf e=B)
  (h:DataW.Trod enc P W base spare held t (.slice a len cap) d ps):len*B<=140737488351232:=by
 obtain⟨fuel,hf⟩:=h;rcases open_slice ht hf with⟨lq,_⟩|⟨x,l,c,m,n,D,Pl,lq,_,hl,hm,hmm,hx,hi⟩
 ·simp[Value.cells] at lq;obtain⟨_,rfl,_⟩:=lq;simp
 ·simp[Value.cells] at lq;obtain⟨rfl,rfl,rfl⟩:=lq;obtain⟨hx,_⟩:=Prod.mk.inj hx;subst hx;have z:=sized_slice sQ hj hd ht;rw[hB] at z;have h2:len<=((List.range len).map D).length+((List.range (m-len)).map fun j=>D (len+j)).length:=by
   simp
  exact Nat.le_trans (Nat.mul_le_mul_right _ h2) z
theorem iG{k:IntKind}{n:Nat}{v:Value}{y:DataW H×List MemPlace}(hu:P.underlying t=some (.int k))(h:DataW.trod enc P W base spare held n t [v]=some y):v=.int k (intOf v)/\(Lit.int k (intOf v)).wf=true:=by
 obtain⟨m,hm,hw⟩:=DataW.trod_int hu h;simp at hm;subst hm;exact⟨rfl,hw.2⟩
end
end
section
open Go.RowKit Go.ChangeShapes Go.WideShapes Go.ChangeAt Go.Deep
theorem pW{H:Type}{enc:TypeId×Value->H}{P:Program}{W:World}{base:Nat}{spare:Nat->Bool}{held:Bool}{t e:TypeId}{a:Option Addr}{len cap:Nat}{d:DataW H}{ps:List MemPlace}{ds:List (DataW H)}{j:Nat}
  (hk:Rows.uptoSmall H ds=true) (hd:ds[j]?=some d) (ht:P.underlying t=some (.slice e))
  (h:DataW.Trod enc P W base spare held t (.slice a len cap) d ps):len<=1048576:=by
 obtain⟨fuel,hf⟩:=h;rcases open_slice ht hf with⟨lq,_⟩|⟨x,l,c,m,n,D,Pl,lq,_,hl,hm,hmm,hx,hi⟩
 ·simp[Value.cells] at lq;obtain⟨_,rfl,_⟩:=lq;simp
 ·simp[Value.cells] at lq;obtain⟨rfl,rfl,rfl⟩:=lq;obtain⟨hx,_⟩:=Prod.mk.inj hx;subst hx;have h2:=Bulk.abF ((List.range len).map D) ((List.range (m-len)).map fun j=>D (len+j));have h3:=Bulk.aep (List.mem_of_getElem? hd);have h4:=Bulk.bound hk;have h5:((List.range len).map D).length=len:=by simp
  omega
theorem Spec.calls{P:Program}{f:FuncId}{args:Array Value}{w:World}{V:Value}{Φ:World->Prop}(h:Spec P f args w fun v w'=>v=V/\Φ w'):Calls P f args w fun e w'=>e=.returned V/\Φ w':=h.2.mono fun e w' ⟨v,he,hv,hk⟩=>⟨by rw[he,hv],hk⟩
end
section
open Go.RowKit Go.ChangeShapes Go.WideShapes Go.ChangeAt Go.Deep
theorem aeq{w:World}{A:Option Addr}{len:Nat}{F:Nat->Nat->Value}(r:Rd w A (len*3) (fun q=>F (q/3) (q%3)))
  (h:∀i,i<len->∃c:Cl,c.wf/\F i 0=.int .i64 c.kind/\F i 1=.int .i64 c.a/\F i 2=.int .i64 c.x) :
  ∃L:List Cl,L.length=len/\Rd w A (L.length*3) (clF L)/\∀c,c∈L->c.wf:=by
 let g:Nat->Cl:=fun i=>⟨intOf (F i 0),intOf (F i 1),intOf (F i 2)⟩
 have hg:∀i,i<len->(g i).wf/\F i 0=.int .i64 (g i).kind/\F i 1=.int .i64 (g i).a/\F i 2=.int .i64 (g i).x:=by
  intro i hi;obtain⟨c,hw,h0,h1,h2⟩:=h i hi;have e:g i=c:=by
   show Cl.mk (intOf (F i 0)) (intOf (F i 1)) (intOf (F i 2))=c;rw[h0,h1,h2];rfl
  rw[e];exact⟨hw,h0,h1,h2⟩
 refine⟨(List.range len).map g,by simp,?_,?_⟩
 ·rw[List.length_map,List.length_range];refine r.congr fun q hq=>?_;have h1:q/3<len:=by omega
  have e:((List.range len).map g).getD (q/3) ⟨0,0,0⟩=g (q/3):=by
   rw[List.getD_eq_getElem?_getD,List.getElem?_map,List.getElem?_range h1];rfl
  unfold clF;rw[e];obtain⟨-,k0,k1,k2⟩:=hg _ h1;unfold Cl.cell;have hm:q%3<3:=Nat.mod_lt _ (by omega);rcases(by omega:q%3=0\/q%3=1\/q%3=2) with e|e|e
  ·rw[e,k0];rfl
  ·rw[e,k1];rfl
  ·rw[e,k2];rfl
 ·intro c hc;obtain⟨i,hi,rfl⟩:=List.mem_map.1 hc;exact(hg i (List.mem_range.1 hi)).1
theorem alh{w:World}{A:Option Addr}{len cap:Nat}{f:Nat->Int}(h:Cs w A len cap (fun j=>.int .i64 (f j)))(hw:∀j,(Lit.int .i64 (f j)).wf=true) :
  ∃Z:List Int,Z.length=len/\Rd w A Z.length (inF Z)/\∀z,z∈Z->ac6 z:=by
 refine⟨(List.range len).map f,by simp,?_,?_⟩
 ·rw[List.length_map,List.length_range];refine h.rd.congr fun q hq=>?_;unfold inF;rw[List.getD_eq_getElem?_getD,List.getElem?_map,List.getElem?_range hq];rfl
 ·intro z hz;obtain⟨i,hi,rfl⟩:=List.mem_map.1 hz;exact bounds_i64 (hw i)
end
namespace topWorn
open Go.RowKit Go.Joins Go.ChangeAt
theorem fA{a b:Bool}(h:a=true)(k:b=true):(a&&b)=true:=by rw[h,k];rfl
theorem j0:(Rows.topWornUptoRow.wf (OpenSpec.ofChange (Rows.OpenSpec.upto Rows.topWornSpec).bare):Bool)=true:=by kernel_rfl
theorem j1:(laidOutB Tryz.pinned.checked.prog:Bool)=true:=by kernel_rfl
theorem j2:(mapsRowed Tryz.pinned.checked.prog:Bool)=true:=by kernel_rfl
theorem j3:((Tryz.f4).params.all (Tryz.pinned.checked.prog.readableRec ·):Bool)=true:=by kernel_rfl
theorem j4:(namedTie Tryz.pinned.checked.prog Rows.topWornUptoRow.named (Rows.OpenSpec.upto Rows.topWornSpec).bare.vars:Bool)=true:=by kernel_rfl
theorem j5:((Rows.topWornUptoRow.stops == []):Bool)=true:=by kernel_rfl
theorem j6:((Tryz.pinned.checked.prog.stops == []):Bool)=true:=by kernel_rfl
theorem j7:((Rows.topWornUptoRow.knobs == []):Bool)=true:=by kernel_rfl
theorem j8:((Tryz.pinned.checked.prog.stopKnobs == []):Bool)=true:=by kernel_rfl
theorem j9:((Rows.topWornUptoRow.inPlace == Tryz.pinned.checked.prog.inPlace 4):Bool)=true:=by kernel_rfl
theorem j10:((Rows.topWornUptoRow.unfollowed == Tryz.pinned.checked.prog.unfollowed 4):Bool)=true:=by kernel_rfl
theorem j11:((Rows.topWornUptoRow.recurses == Tryz.pinned.checked.prog.recurses 4):Bool)=true:=by kernel_rfl
theorem j12:((Rows.topWornUptoRow.named == Tryz.pinned.checked.prog.varsNamed 4):Bool)=true:=by kernel_rfl
theorem j13:((Rows.topWornUptoRow.maps == ((Tryz.f4).params.toList++(Rows.OpenSpec.upto Rows.topWornSpec).bare.plain.varTypes Tryz.pinned.checked.prog).any (Tryz.pinned.checked.prog.mapsRec ·)):Bool)=true:=by kernel_rfl
theorem j14:((Rows.topWornUptoRow.ifaces == ((Tryz.f4).params.toList++(Rows.OpenSpec.upto Rows.topWornSpec).bare.plain.varTypes Tryz.pinned.checked.prog).any (Tryz.pinned.checked.prog.ifacesRec ·)):Bool)=true:=by kernel_rfl
theorem j15:((Rows.topWornUptoRow.mapsOut == Tryz.pinned.checked.prog.mapsAmong (Tryz.f4).resultTypes.toList):Bool)=true:=by kernel_rfl
theorem j16:((Rows.topWornUptoRow.loops == ((Tryz.f4).params.toList++(Rows.OpenSpec.upto Rows.topWornSpec).bare.plain.varTypes Tryz.pinned.checked.prog).any (Tryz.pinned.checked.prog.loopsFrom ·)):Bool)=true:=by kernel_rfl
theorem j17:((Rows.topWornUptoRow.wideKeys == ((Tryz.f4).params.toList++(Rows.OpenSpec.upto Rows.topWornSpec).bare.plain.varTypes Tryz.pinned.checked.prog++(Tryz.f4).resultTypes.toList).any (Tryz.pinned.checked.prog.wideKeysFrom ·)):Bool)=true:=by kernel_rfl
theorem j18:((Rows.OpenSpec.upto Rows.topWornSpec).bare.vars.all (Tryz.pinned.checked.prog.varReadable ·):Bool)=true:=by kernel_rfl
theorem j19:((Tryz.f4).resultTypes.all (fun t=>Tryz.pinned.checked.prog.readableRec t&&decide (t<Tryz.pinned.checked.prog.types.size)):Bool)=true:=by kernel_rfl
theorem j20:((Rows.topWornUptoRow.ifacesOut == (Tryz.f4).resultTypes.toList.any (Tryz.pinned.checked.prog.ifacesRec ·)):Bool)=true:=by kernel_rfl
theorem j21:((Rows.topWornUptoRow.loopsOut == (Tryz.f4).resultTypes.toList.any (Tryz.pinned.checked.prog.loopsFrom ·)):Bool)=true:=by kernel_rfl
theorem j22:((Rows.topWornUptoRow.plainKeys == Tryz.pinned.checked.prog.plainKeys):Bool)=true:=by kernel_rfl
theorem j23:(Rows.topWornUptoRow.shortTexts.isNone:Bool)=true:=by kernel_rfl
theorem j24:(Tryz.pinned.checked.prog.stopsHeard:Bool)=true:=by kernel_rfl
theorem j25:(Tryz.pinned.checked.prog.mayEnter:Bool)=true:=by kernel_rfl
theorem j26:((Rows.topWornUptoRow.lifted == Tryz.pinned.checked.prog.liftsFinal):Bool)=true:=by kernel_rfl
theorem j27:((Tryz.pinned.checked.prog.make == some Rows.topWornUptoRow.make):Bool)=true:=by kernel_rfl
theorem j28:((Rows.topWornUptoRow.kinds == (if Rows.topWornUptoRow.domain.isEmpty then [] else (Tryz.f4).params.toList.map fun t=>match Tryz.pinned.checked.prog.underlying t with|some (.int k)=>some k|_=>none)):Bool)=true:=by kernel_rfl
theorem j29:((Rows.topWornUptoRow.pinned == Rows.topWornUptoRow.pinnedBy):Bool)=true:=by kernel_rfl
theorem j30:((Rows.topWornUptoRow.veiled == ((Tryz.f4).params.toList++(Rows.OpenSpec.upto Rows.topWornSpec).bare.plain.varTypes Tryz.pinned.checked.prog++(Tryz.f4).resultTypes.toList).any (Tryz.pinned.checked.prog.veiledRec ·)):Bool)=true:=by kernel_rfl
theorem j31:(Rows.topWornUptoRow.veiledFits Tryz.pinned.checked.prog (Tryz.f4).params.toList ((Tryz.f4).params.toList++(Rows.OpenSpec.upto Rows.topWornSpec).bare.plain.varTypes Tryz.pinned.checked.prog++(Tryz.f4).resultTypes.toList):Bool)=true:=by kernel_rfl
theorem closed:joinedFacts Tryz.pinned.checked.prog 4 Tryz.f4 (Rows.OpenSpec.upto Rows.topWornSpec).bare Rows.topWornUptoRow=true:=(fA (fA (fA (fA (fA (fA (fA (fA (fA (fA (fA (fA (fA (fA (fA (fA (fA (fA (fA (fA (fA (fA (fA (fA (fA (fA (fA (fA (fA (fA (fA j0 j1) j2) j3) j4) j5) j6) j7) j8) j9) j10) j11) j12) j13) j14) j15) j16) j17) j18) j19) j20) j21) j22) j23) j24) j25) j26) j27) j28) j29) j30) j31)
theorem wrap:(Tryz.f4).isWrapper Tryz.pinned.checked.prog Rows.topWornUptoRow.wrapper Rows.topWornUptoRow.mainSum:=by unfold Func.isWrapper;first|(rw[if_pos (by decide +kernel)];kernel_rfl)|(rw[if_neg (by decide +kernel)];exact⟨rfl,rfl⟩)
end topWorn
end Go.Proofs.YtaeikigfgfcadaaGreat

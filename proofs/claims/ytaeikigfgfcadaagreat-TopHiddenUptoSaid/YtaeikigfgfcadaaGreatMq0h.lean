/- Texts behind one another: Flip, W19, Hidden, Bulk, Structs, BulkS, TopArg, JnTopHidden. -/
import Derived.Deep.CondSized
import Derived.Deep.Slices
import Derived.Deep.Fields
import Derived.ChangeSame
import Derived.OpenShut
import Derived.WalkKit
import Derived.ProofKit
import Derived.ChangeOld
import Derived.SizedLaws
import Derived.JoinedCond
import Derived.Lib.SmallJoins
import Derived.Test.YtaeikigfgfcadaaGreatMq0a
import Derived.Test.YtaeikigfgfcadaaGreatMq0b
import Derived.Test.YtaeikigfgfcadaaGreatMq0c
import Derived.Test.YtaeikigfgfcadaaGreatMq0d
import Derived.Test.YtaeikigfgfcadaaGreatMq0e
import Derived.Test.YtaeikigfgfcadaaGreatMq0f
import Derived.Test.YtaeikigfgfcadaaGreatMq0g
namespace Go.Proofs.YtaeikigfgfcadaaGreat
set_option maxHeartbeats 16000000
set_option maxRecDepth 20000
set_option linter.unusedVariables false
set_option linter.unusedSimpArgs false
set_option linter.unnecessarySimpa false
section
open Go.RowKit
theorem turn_dmg(x:Chunk)(b m:Nat):∀n,(x.turn b m).dmgTo n<=x.dmgTo n+(if b<n then 1 else 0)
 |0=>Nat.zero_le _
 | n+1=>by
  have ih:=turn_dmg x b m n;show(x.turn b m).dmgTo n+(if (x.turn b m).now n=(x.turn b m).truth n then 0 else 1)<=x.dmgTo n+(if x.now n=x.truth n then 0 else 1)+_;have et:(x.turn b m).truth n=x.truth n:=rfl;by_cases hb:n=b
  ·rw[if_neg (show ¬b<n by omega)] at ih;rw[if_pos (show b<n+1 by omega)];split<;>split<;>omega
  ·have en:(x.turn b m).now n=x.now n:=if_neg hb;rw[en,et];by_cases h:b<n
   ·rw[if_pos h] at ih;rw[if_pos (show b<n+1 by omega)];omega
   ·rw[if_neg h] at ih;rw[if_neg (show ¬b<n+1 by omega)];omega
theorem Abs.flip{C:Chip}{A:CS}(H:Abs C A){a bit:Nat}(ha:a<96)(hbit:bit<2048)(hw:(C.ch a (bit/512)).worst<2):∃x,Abs (C.flip a bit) { A with dm:=updf A.dm a x }:=by
 have hk:bit/512<4:=by omega
 have h1:=H.wst a (bit/512) ha hk;have h2:=turn_dmg (C.ch a (bit/512)) (bit/8%64) (2^(bit%8)) 64;rw[if_pos (show bit/8%64<64 by omega)] at h2;have h2:((C.ch a (bit/512)).turn (bit/8%64) (2^(bit%8))).dmg<=(C.ch a (bit/512)).dmg+1:=h2;have hd:((C.ch a (bit/512)).flip (bit/8%64) (2^(bit%8))).dmg=((C.ch a (bit/512)).turn (bit/8%64) (2^(bit%8))).dmg:=by
  have:∀n,((C.ch a (bit/512)).flip (bit/8%64) (2^(bit%8))).dmgTo n=((C.ch a (bit/512)).turn (bit/8%64) (2^(bit%8))).dmgTo n:=fun n=>by
   induction n with
   |zero=>rfl
   | succ n ih =>
    show((C.ch a (bit/512)).flip (bit/8%64) (2^(bit%8))).dmgTo n+_=((C.ch a (bit/512)).turn (bit/8%64) (2^(bit%8))).dmgTo n+_;rw[ih];rfl
  exact this 64
 refine⟨mx (fun k=>((C.flip a bit).ch a k).dmg) 4,Chip.flip_wf H.wf a bit,fun p hp=>?_,fun p k hp hk'=>?_,fun p t D hp e=>?_,H.rd,H.failed,H.before,H.atErase,fun p k hp hk'=>?_⟩
 ·refine(H.page p hp).congr (fun k hk'=>?_);unfold Chip.flip;by_cases e:p=a/\k=bit/512
  ·obtain⟨rfl,rfl⟩:=e;rw[Chip.setCh_same];exact⟨rfl,rfl⟩
  ·rw[Chip.setCh_ne _ _ e];exact⟨rfl,rfl⟩
 ·unfold Chip.flip;by_cases e:p=a/\k=bit/512
  ·obtain⟨rfl,rfl⟩:=e;rw[Chip.setCh_same,hd];omega
  ·rw[Chip.setCh_ne _ _ e];exact H.few p k hp hk'
 ·show updf A.dm a _ p=_;by_cases hp':p=a
  ·subst hp';exact if_pos rfl
  ·rw[show updf A.dm a (mx (fun k=>((C.flip a bit).ch a k).dmg) 4) p=A.dm p from if_neg hp',H.dm p t D hp e];exact mx_congr 4 (fun k hk'=>by unfold Chip.flip;rw[Chip.setCh_ne _ _ (fun h=>hp' h.1)])
 ·unfold Chip.flip;by_cases e:p=a/\k=bit/512
  ·obtain⟨rfl,rfl⟩:=e;rw[Chip.setCh_same,hd];show _<=max _ _;omega
  ·rw[Chip.setCh_ne _ _ e];exact H.wst p k hp hk'
theorem Inv.wi{K:KS}{P:CS}{k:Cp}{m:Int}(I:Inv K P k m){a:Nat->Nat->Nat}(hs:Shows P K.at_ a)(hm:m<=1099511627775):Wi a k K P/\Rm0 K P/\∀B,¬P.may B:=by
 have gd:=I.l.ok.gd;have led:=I.l.ok.led;have nx:=I.l.next;have nomay:∀B,¬P.may B:=fun B h=>by
  rcases h with h|h|h
  ·rw[gd.calm.f] at h;cases h
  ·have:=gd.calm.b B;omega
  ·rw[gd.calm.e] at h;cases h
 refine⟨⟨⟨⟨gd.val,fun p q t t' D D' hp hq e e' hs=>?_,nx.1⟩,led.pt,led.data,led.told,fun o ho=>by rw[I.l.fl o ho];exact nx.2.2.2 o ho,fun o ho e=>?_,fun o ho e q t D hq h1 h2 _=>?_⟩,hs,I.l.en,I.l.fl,by omega,I.l.con,I.h.hb,I.h.cur,fun b hb=>by have:=I.b.st b hb;omega,I.b.pn,I.b.fb,I.b.fi,I.b.bl,I.b.fst,I.b.fr,fun b hb e=>?_,fun _ o ho e=>?_⟩,⟨I.b.opn,by rw[noBad I.b];omega,by rw[noBad I.b];have:=I.free;omega,0,fun B _ h=>absurd h (nomay B),fun _ h=>absurd h (nomay 0)⟩,nomay⟩
 ·by_cases hpq:p=q
  ·subst hpq;rw[e] at e'
   cases e'
   exact⟨rfl,rfl⟩
  ·obtain⟨g1,g2,_⟩:=gd.seq p q t t' D D' hp hq hpq e e' hs;exact⟨g1,g2⟩
 ·obtain⟨hp,t,D,e1,e2,e3,e4⟩:=led.yes o ho e;refine⟨t.seq,⟨hp,led.bad _ (by omega),⟨t,D,e1,e2,rfl⟩,fun q t' D' hq h1 h2 _=>?_⟩,e3⟩;by_cases hqp:q=K.at_ o-1
  ·subst hqp;rw[e1] at h1
   cases h1
   exact Int.le_refl _
  ·rcases e4 q t' D' hq hqp h1 h2 with x|⟨x,_⟩<;>omega
 ·have:=led.no o (by omega) e q t D hq h1 h2;rw[floor_lt k ho] at this;exact this
 ·rw[led.bad b hb] at e
  cases e
 ·obtain⟨hp,t,D,e1,_⟩:=led.yes o ho e;have h2:=I.b.st ((K.at_ o-1)/8) (by omega);have h0:K.st ((K.at_ o-1)/8)≠0:=fun h=>by
   have:=I.b.bl ((K.at_ o-1)/8) ((K.at_ o-1)%8) (by omega) h (by omega);rw[show(K.at_ o-1)/8*8+(K.at_ o-1)%8=K.at_ o-1 by omega,e1] at this
   cases this
  by_cases h1:K.st ((K.at_ o-1)/8)=1
  ·exact .inr (I.b.opn _ (by omega) h1)
  ·exact .inl (by omega)
def farT2(T:TypeId):Bool := !(Nat.beq T 143||Nat.beq T 220||Nat.beq T 188||Nat.beq T 210||Nat.beq T 223||Nat.beq T 217||Nat.beq T 3||Nat.beq T 250||Nat.beq T 104||Nat.beq T 318||Nat.beq T 87)
section
variable{w w':World}{own:List Nat}{d ch:Nat}{K:KS}{P:CS}{b:Option Nat}
theorem farT2_ne{T U:TypeId}(h:farT2 T=true)(hU:farT2 U=false):T≠U:=fun e=>by
 rw[e,hU] at h
 cases h
theorem DvOn.far2(D:DvOn w own d ch K P b){x m:Nat}{T:TypeId}{f:Nat->Value}(rx:Row w x T m f)(hT:farT2 T=true):x∉own:=fun hx=>by
 obtain⟨N,X,c,n,e,r,h,eC,hq⟩:=D;rw[e] at hx;obtain⟨C,M,q⟩:=h.med;obtain⟨F,rg⟩:=M.frm.cod.fs.ty;have nn:∀ {y m':Nat} {U:TypeId} {f':Nat->Value},Row w y U m' f'->farT2 U=false->x≠y:=fun ry hU=>Row.ne_ rx ry (farT2_ne hT hU);rcases List.mem_cons.1 hx with e|hm
 ·exact nn r (by decide) e
 rcases List.mem_append.1 hm with hm|hm
 ·simp only[Cr.all,Cr.own,Pt.l,List.cons_append,List.nil_append,List.mem_cons,List.not_mem_nil,or_false] at hm;rcases hm with e|e|e|e|e|e|e|e|e
  ·exact nn h.core.row (by decide) e
  ·exact nn h.core.pool (by decide) e
  ·exact nn h.core.map (by decide) e
  ·exact nn h.core.front (by decide) e
  ·exact nn h.core.health (by decide) e
  ·exact nn h.core.pat (by decide) e
  ·exact nn M.row (by decide) e
  ·exact nn M.chip (by decide) e
  ·exact nn rg (by decide) e
 ·exact h.core.qu.row_ne rx (farT2_ne hT (by decide)).symm hm
theorem DvOn.other{own1:List Nat}{d1 ch1:Nat}{K1:KS}{P1:CS}{b1:Option Nat}(D:DvOn w own d ch K P b)(D1:DvOn w own1 d1 ch1 K1 P1 b1)(k:Keep own1 w w')(hd:∀x,x∈own1->x∉own):DvOn w' own d ch K P b:=by
 obtain⟨N,X,c,n,e,r,h,eC,hq⟩:=D;obtain⟨C,M,A,l⟩:=h.med;have nin:∀x,x∈own->x∉own1:=fun x hx hm=>hd x hm hx;have a1:=D1.far2 M.frm.row (by decide);have a2:=D1.far2 M.frm.cod.row (by decide);have a3:=D1.far2 M.frm.cod.gen (by decide);have inn:∀x,x∈N.all++blk X->x∉own1:=fun x hx=>nin x (by rw[e];exact List.mem_cons_of_mem _ hx);have inl:∀x,x∈N.N.l->x∉own1:=fun x hx=>inn x (List.mem_append_left _ (in_all_l hx));refine⟨N,X,c,n,e,Row.keep r k (nin d (by rw[e];exact List.mem_cons_self ..)),⟨h.core.keep k (fun x hx=>?_),C,M.keep k (inl _ (by simp[Pt.l])) (inl _ (by simp[Pt.l])) a1 a2 (inl _ (by simp[Pt.l])) a3,A,l⟩,eC,hq⟩;rcases List.mem_append.1 hx with hx|hx
 ·exact inn x (List.mem_append_left _ (in_all_own hx))
 ·exact inn x (List.mem_append_right _ hx)
theorem DvOn.rechip(D:DvOn w own d ch K P b){C':Chip}{P':CS}{b':Option Nat}(k:Keep [ch] w w')(H:ChipAt w' ch C')(hA:Abs C' P')(hl:C'.left b'):DvOn w' own d ch K P' b':=by
 obtain⟨N,X,c,n,e,r,h,eC,hq⟩:=D;obtain⟨C,M,hA0,hl0⟩:=h.med;have hd:d≠ch:=Row.ne_ r (show ChipAt w ch C by rw[<-eC];exact M.chip) (by decide);subst eC;exact⟨N,X,c,n,e,Row.keep r k (by simpa using hd),h.chip (k.mono (fun x hx=>by rw[List.mem_singleton.1 hx];simp[Pt.l])) ⟨C',M.chipTo k H,hA,hl⟩,rfl,hq⟩
structure PlW(w0:World)(own0:List Nat)(d ch:Nat)(a:Nat->Nat)(K:KS)(P:CS)(own:List Nat)(w:World):Prop where
 on:DvOn w own d ch K P none
 wi:∃k,Wi (arB a) k K P
 sub:∀x,x∈own->x∈own0\/w0.heap.size<=x
 kk:Keep own0 w0 w
theorem showingw_ok{w:World}{k:Cp}(D:DvOn w own d ch K P none){a:Nat->Nat}(W:Wi (arB a) k K P)(ha:∀o,a o<=1000000) :
  Spec Tryz.prog 25 #[.pointer (some ⟨d,0,none⟩),agg 24 (arF a)] w fun v w'=>v=.bool true/\∃K' P' own',PlW w own d ch a K' P' own' w':=by
 refine spec_of_wpE (T:=tt) tt_ok Tryz.func25 rfl (by decide +kernel) Tryz.ntmps25 (by simp) ?_;conv=>whnf
 refine Ru.boxa ?_;intro x3 w1 hx3 hs1 r3 k1;have D1:=D.keep0 k1;conv=>whnf
 repeat ((first|refine CW.s ?_);conv=>whnf)
 refine CW.loop (ι:=Nat×KS×CS×List Nat) (fun i w'=>i.1<=24/\PlW w own d ch a i.2.1 i.2.2.1 i.2.2.2 w'/\Row w' x3 28 24 (arF a))
  (fun i=>[(0,.pointer (some ⟨d,0,none⟩)),(3,.pointer (some ⟨x3,0,none⟩)),(5,.int .i64 i.1)]) (fun i=>24-i.1) (0,K,P,own) tt_ok
  ⟨by omega,⟨D1,⟨k,W⟩,fun x hx=>.inl hx,k1.mono (by simp)⟩,r3⟩ ⟨rfl,rfl,rfl,trivial⟩ ?_;clear D1 r3 k1;rintro⟨i,K1,P1,own1⟩ wr ⟨hi,⟨D1,⟨k1,W1⟩,sub1,kk⟩,r3⟩;simp only at hi D1 W1 sub1 kk r3 ⊢;rcases Nat.lt_or_ge i 24 with hlt|hge
 ·conv=>whnf
  repeat ((first|refine Br.y ?_|refine CW.s ?_);conv=>whnf)
  refine Ca.of (dreadw_ok D1 W1 (s:=i) hlt) ?_;rintro u w2 ⟨k2',⟨K2,P2,b2,own2,hb2,D2,h2',⟨Y,e,F,rfl,hY,hYn,hF⟩,hC⟩|⟨hb2,_⟩⟩
  case inr=>exact absurd rfl hb2
  obtain rfl:=hb2 rfl;have r32:=r3.keep k2' (D1.far r3 (by decide));have ca:w2.cell? ⟨x3,i,none⟩=some (.int .i64 (a i:Nat)):=r32.cell i (by omega);have hYr:Rd w2 Y 160 (fun j=>.int .u8 ((byF (a i) j:Nat):Int)):=by
   have h3:=hY.rd;rw[Nat.mul_one] at h3;intro hp;obtain⟨g1,o1,e1,h4⟩:=h3 hp;refine⟨g1,o1,e1,fun j hj=>?_⟩;rw[h4 j hj];show some (Value.int .u8 ((F j:Nat):Int))=_;rw[hF j hj];rfl
  have ha1:=ha i;have hs2:=kk.size;conv=>whnf
  repeat ((first|(refine Ix.of i (by omega) (by omega) ?_)|(refine Ld.at (by omega) ca ?_)|refine Br.f ?_|refine Ru.neq_nil0 ?_);conv=>whnf)
  refine Ca.of (tbytes_ok _ (by omega) w2) ?_;rintro _ w3 ⟨gb,rfl,hgb,rb,k3⟩;conv=>whnf
  repeat ((first|refine Br.f ?_);conv=>whnf)
  refine Ca.of (same17_ok _ _ 160 160 _ _ (fun j=>((byF (a i) j:Nat):Int)) (fun j=>((byF (a i) j:Nat):Int)) w3 (hYr.keep0 k3) (Rd.of_row rb (n:=160) (by omega)) (fun j=>by have:=byF_lt (a i) j;omega) (fun j=>by have:=byF_lt (a i) j;omega)) ?_;rintro _ _ ⟨rfl,rfl⟩;rw[sameB_yes rfl (fun _ _=>rfl)];conv=>whnf
  repeat ((first|refine Br.f ?_|refine Pk.f ?_|refine Ar.la ?_);conv=>whnf)
  refine⟨(i+1,K2,P2,own2),⟨hlt,⟨D2.keep0 k3,hC.w,fun x hx=>?_,(kk.then k2' sub1).trans (k3.mono (by simp))⟩,r32.keep k3 (by simp)⟩,⟨rfl,rfl,vi (by simp only;omega),trivial⟩,by simp only;omega⟩;rcases h2' x hx with h|h
  ·exact sub1 x h
  ·exact .inr (Nat.le_trans hs2 h)
 ·obtain rfl:i=24:=by omega
  conv=>whnf
  repeat ((first|refine Br.f ?_|refine CW.s ?_);conv=>whnf)
  exact⟨rfl,rfl,K1,P1,own1,D1,⟨k1,W1⟩,sub1,kk⟩
end
theorem Ru.neqStr{t:TypeId}{x y:Operand}{a b:ByteArray}{w:World}{K:Value->World->Prop}(e:a=b)(k:K (.bool false) w):Ru Tryz.prog (do eqGuard .neq t x y (.string a) (.string b);binOp .neq t (.string a) (.string b)) w K:=by
 subst e;refine⟨_,_,?_,k⟩;simp[eqGuard,binOp_string_neq]
def AnsW(a:Nat->Nat)(c:Cl)(w w':World)(Y:Option Addr)(n e:Nat)(f:Nat->Nat):Prop :=
 (c.kd<=3/\Y=none/\n=0/\e=0)\/(4<=c.kd/\n=160/\Ly w' 5 1 Y 160 e (fun j=>.int .u8 (f j:Nat))/\(∀x,x∈blk Y->w.heap.size<=x)/\∀j,j<160->f j=arB a c.of j)
structure Sane(own:List Nat)(d ch:Nat)(a:Nat->Nat)(i:Nat)(K:KS)(P:CS)(w:World):Prop where
 on:DvOn w own d ch K P none
 wi:∃k,Wi (arB a) k K P
 rm:Rm0 K P
 nm:∀B,¬P.may B
 nx:K.next-4*(cntS K.st 3:Nat)<=2+2*(i:Nat)
theorem Sane.keep0{own:List Nat}{d ch:Nat}{a:Nat->Nat}{i:Nat}{K:KS}{P:CS}{w w':World}(h:Sane own d ch a i K P w)(k:Keep [] w w'):Sane own d ch a i K P w':=⟨h.on.keep0 k,h.wi,h.rm,h.nm,h.nx⟩
theorem Sane.away{own:List Nat}{d ch:Nat}{a:Nat->Nat}{i:Nat}{K:KS}{P:CS}{w w':World}(h:Sane own d ch a i K P w){x m:Nat}{T:TypeId}{f:Nat->Value}(rx:Row w x T m f)(hT:farT T=true)(k:Keep [x] w w'):Sane own d ch a i K P w':=⟨h.on.away rx hT k,h.wi,h.rm,h.nm,h.nx⟩
theorem Sane.other{own own1:List Nat}{d ch d1 ch1:Nat}{a:Nat->Nat}{i:Nat}{K K1:KS}{P P1:CS}{w w':World}(h:Sane own d ch a i K P w)(D1:DvOn w own1 d1 ch1 K1 P1 none)(k:Keep own1 w w')(hd:∀x,x∈own1->x∉own):Sane own d ch a i K P w':=⟨h.on.other D1 k hd,h.wi,h.rm,h.nm,h.nx⟩
theorem Begun.sane{w0 w:World}{ch d:Nat}{own:List Nat}{K:KS}{P:CS}{k:Cp}(B:Begun w0 w ch d own K P k (2+2*([]:List Cl).length) (playA (fun _=>0) [])):Sane own d ch (fun _=>0) 0 K P w:=by
 obtain⟨W,R,nm⟩:=B.inv.wi B.sh (by show(2:Int)+2*0<=_;omega);have hnx:K.next<=2+2*((([]:List Cl).length:Nat):Int):=B.inv.l.next.2.2.1;have hnx:K.next<=2:=by simpa using hnx
 exact⟨B.on,⟨k,W⟩,R,nm,by omega⟩
section
variable{w w':World}{own:List Nat}{d ch:Nat}{K:KS}{P:CS}{a:Nat->Nat}{i:Nat}
theorem sane_ok(S:Sane own d ch a i K P w)(hi:i<=1048576){c:Cl}(hw:c.wf) :
  Spec Tryz.prog 19 #[.pointer (some ⟨d,0,none⟩),agg 24 (arF a),agg 3 c.cell] w fun v w'=>Keep own w w'/\∃K' P' own' Y n e f,v=.tuple #[agg 24 (arF (c.arr a)),.slice Y n e,errOf 0]/\Sane own' d ch (c.arr a) (i+1) K' P' w'/\(∀x,x∈own'->x∈own\/w.heap.size<=x)/\AnsW a c w w' Y n e f:=by
 obtain⟨k,W⟩:=S.wi;have hnx:=S.nx;have hbd:=S.rm.bd;have next:∀ {K':KS} {P':CS} {a':Nat->Nat},CallW (arB a') K P K' P'->Rm0 K' P'/\(∀B,¬P'.may B)/\K'.next-4*(cntS K'.st 3:Nat)<=2+2*((i+1:Nat):Int):=fun C=>by
  have:=C.nx;exact⟨C.rm S.rm (fun B _=>S.nm B) (by omega),fun B h=>S.nm B (C.may B h),by omega⟩
 refine(doesw_ok S.on hw W).mono ?_;rintro v w' ⟨kk,⟨K',P',b',own',hb,D,hsub,h⟩|⟨hb,_⟩⟩
 case inr=>exact absurd rfl hb
 obtain rfl:=hb rfl;refine⟨kk,K',P',own',?_⟩
 cases h with
 | done h1 h2 h3 =>
  obtain⟨n1,n2,n3⟩:=next h3;exact⟨none,0,0,fun _=>0,h2,⟨D,h3.w,n1,n2,n3⟩,hsub,.inl ⟨h1,rfl,rfl,rfl⟩⟩
 |not h1 h2 h3 h4=>exact(h4 S.rm (by omega)).elim
 | read h1 h2 h3 h4 h5 h6 =>
  obtain⟨n1,n2,n3⟩:=next h6;have e:c.arr a=a:=by
   unfold Cl.arr;rw[if_neg (by omega),if_neg (by omega)]
  rw[e];exact⟨_,160,_,_,h2,⟨D,h6.w,n1,n2,n3⟩,hsub,.inr ⟨h1,rfl,h3,h4,h5⟩⟩
end
theorem AnsW.str{a:Nat->Nat}{c:Cl}{w1 w1' w2 w2':World}{Y1 Y2:Option Addr}{n1 n2 e1 e2:Nat}{f1 f2:Nat->Nat}(h1:AnsW a c w1 w1' Y1 n1 e1 f1)(h2:AnsW a c w2 w2' Y2 n2 e2 f2):strOfNums ((List.range n1).map fun j=>((f1 j:Nat):Int))=strOfNums ((List.range n2).map fun j=>((f2 j:Nat):Int)):=by
 congr 1;rcases h1 with⟨k1,-,rfl,-⟩|⟨k1,rfl,-,-,g1⟩<;>rcases h2 with⟨k2,-,rfl,-⟩|⟨k2,rfl,-,-,g2⟩
 ·rfl
 ·omega
 ·omega
 ·refine List.map_congr_left (fun j hj=>?_);have hj:=List.mem_range.1 hj;rw[g1 j hj,g2 j hj]
theorem AnsW.rd{a:Nat->Nat}{c:Cl}{w w1 w2:World}{Y:Option Addr}{n e:Nat}{f:Nat->Nat}(h:AnsW a c w w1 Y n e f){S:List Nat}(k:Keep S w1 w2)(hS:∀x,x∈S->x<w.heap.size\/w1.heap.size<=x):Rd w2 Y n (fun j=>.int .u8 ((f j:Nat):Int)):=by
 rcases h with⟨_,rfl,rfl,_⟩|⟨_,rfl,ly,fr,_⟩
 ·exact fun hn=>absurd hn (by omega)
 ·have h3:=(ly.keep k (fun x hx hm=>by
   have h1:=fr x hx;have h2:=ly.blk_lt hx;rcases hS x hm with y|y<;>omega)).rd
  rw[Nat.mul_one] at h3;exact h3
theorem AnsW.blk{a:Nat->Nat}{c:Cl}{w w1:World}{Y:Option Addr}{n e:Nat}{f:Nat->Nat}(h:AnsW a c w w1 Y n e f):∀x,x∈blk Y->w.heap.size<=x/\x<w1.heap.size:=fun x hx=>by
 rcases h with⟨_,rfl,rfl,_⟩|⟨_,rfl,ly,fr,_⟩
 ·cases hx
 ·exact⟨fr x hx,ly.blk_lt hx⟩
theorem AnsW.rd0{a:Nat->Nat}{c:Cl}{w w1:World}{Y:Option Addr}{n e:Nat}{f:Nat->Nat}(h:AnsW a c w w1 Y n e f):Rd w1 Y n (fun j=>.int .u8 ((f j:Nat):Int)):=h.rd (Keep.refl [] w1) (fun x hx=>by cases hx)
theorem hidden_ok{w:World}{L:List Cl}{Z:List Int}{A C:Option Addr}{cA cC:Nat}(hL:Rd w A (L.length*3) (clF L))(hZ:Rd w C Z.length (inF Z))(hLw:∀c,c∈L->c.wf)(hZw:∀z,z∈Z->i64R z)(hL1:L.length<=1048576) :
  Spec Tryz.prog 13 #[.slice A L.length cA,.slice C Z.length cC] w fun v w'=>v=.bool true/\Keep [] w w':=by
 refine spec_of_wpE (T:=tt) tt_ok Tryz.func13 rfl (by decide +kernel) Tryz.ntmps13 (by simp) ?_;conv=>whnf
 refine Ca.of (begun_ok (L:=[]) (A:=none) (cA:=0) (fun h=>absurd h (by simp)) (fun _ h=>by cases h) (by simp)) ?_;rintro _ w1 ⟨ch1,d1,own1,K1,P1,k1,rfl,B1⟩;conv=>whnf
 refine Ru.alloca (alloc_ar w1) ?_;intro x7 w2 hx7 hs2 r7 k2;conv=>whnf
 refine Ru.sta r7 size_ar (by omega) (fun j hj=>arF_one _ j) ?_;intro w3 r73 k3;have q3:Keep [] w1 w3:=k2.then k3 (fun x hx=>.inr (by rw[List.mem_singleton.1 hx,hx7];exact Nat.le_refl _));have S1:=B1.sane.keep0 q3;have kk3:=B1.kk.trans q3;have new1:=B1.new;have lt1:=S1.on.own_lt;clear k2 k3 r7 r73 hs2 hx7 B1 q3;conv=>whnf
 refine Ca.of (begun_ok (L:=[]) (A:=none) (cA:=0) (fun h=>absurd h (by simp)) (fun _ h=>by cases h) (by simp)) ?_;rintro _ w4 ⟨ch2,d2,own2,K2,P2,k2,rfl,B2⟩;conv=>whnf
 refine Ru.alloca (alloc_ar w4) ?_;intro x10 w5 hx10 hs5 r10 k5;conv=>whnf
 refine Ru.sta r10 size_ar (by omega) (fun j hj=>arF_one _ j) ?_;intro w6 r106 k6;have q6:Keep [] w4 w6:=k5.then k6 (fun x hx=>.inr (by rw[List.mem_singleton.1 hx,hx10];exact Nat.le_refl _));have S1:=(S1.keep0 B2.kk).keep0 q6;have S2:=B2.sane.keep0 q6;have kk6:=(kk3.trans B2.kk).trans q6;have new2:∀x,x∈own2->w.heap.size<=x:=fun x hx=>Nat.le_trans kk3.size (B2.new x hx);have dis:∀x,x∈own1->x∉own2:=fun x hx hm=>by
  have:=lt1 x hx;have:=B2.new x hm;omega
 clear k5 k6 r10 r106 hs5 hx10 B2 q6 lt1 kk3;conv=>whnf
 repeat ((first|refine CW.s ?_);conv=>whnf)
 refine Ru.of (chip_eq w6 _ _) ?_;conv=>whnf
 repeat ((first|refine Br.f ?_);conv=>whnf)
 refine Ru.of (chip_eq w6 _ _) ?_;conv=>whnf
 repeat ((first|refine Br.f ?_|refine Pk.f ?_);conv=>whnf)
 refine Ru.of (build_ar w6) ?_;conv=>whnf
 refine Ru.alloca (alloc_ar w6) ?_;intro x11 w7 hx11 hs7 r11 k7;conv=>whnf
 refine Ru.sta r11 size_ar (by omega) (fun j hj=>arF_one _ j) ?_;intro w8 r118 k8;have r118:Row w8 x11 28 24 (arF fun _=>0):=r118.congr (fun j hj=>by unfold lay;rw[if_pos (by omega),Nat.sub_zero]);have q8:Keep [] w6 w8:=k7.then k8 (fun x hx=>.inr (by rw[List.mem_singleton.1 hx,hx11];exact Nat.le_refl _));have S1:=S1.keep0 q8;have S2:=S2.keep0 q8;have kk8:=kk6.trans q8;have hx11w:w.heap.size<=x11:=by
  rw[hx11];exact kk6.size
 clear k7 k8 r11 hs7 hx11 q8 kk6;conv=>whnf
 repeat ((first|refine CW.s ?_);conv=>whnf)
 refine CW.loop (ι:=Nat×KS×CS×List Nat×KS×CS×List Nat) (fun i w'=>i.1<=L.length/\Sane i.2.2.2.1 d1 ch1 (playA (fun _=>0) (L.take i.1)) i.1 i.2.1 i.2.2.1 w'/\Sane i.2.2.2.2.2.2 d2 ch2 (playA (fun _=>0) (L.take i.1)) i.1 i.2.2.2.2.1 i.2.2.2.2.2.1 w'/\(∀x,x∈i.2.2.2.1->x∉i.2.2.2.2.2.2)/\(∀x,x∈i.2.2.2.1->w.heap.size<=x)/\(∀x,x∈i.2.2.2.2.2.2->w.heap.size<=x)/\Row w' x11 28 24 (arF (playA (fun _=>0) (L.take i.1)))/\Keep [] w w')
  (fun i=>[(0,.slice A L.length cA),(1,.slice C Z.length cC),(6,.pointer (some ⟨d1,0,none⟩)),(8,.pointer (some ⟨ch2,0,none⟩)),(9,.pointer (some ⟨d2,0,none⟩)),(11,.pointer (some ⟨x11,0,none⟩)),(12,.int .i64 i.1)]) (fun i=>L.length-i.1) (0,K1,P1,own1,K2,P2,own2) tt_ok
  ⟨by simp,S1,S2,dis,new1,new2,r118,kk8⟩ ⟨rfl,rfl,rfl,rfl,rfl,rfl,rfl,trivial⟩ ?_;clear S1 S2 dis new1 new2 r118 kk8;rintro⟨i,K1,P1,own1,K2,P2,own2⟩ wr ⟨hi,S1,S2,dis,new1,new2,r11,kk⟩;simp only at hi S1 S2 dis new1 new2 r11 kk ⊢;rcases Nat.lt_or_ge i L.length with hlt|hge
 ·have hLr:=hL.keep0 kk;obtain⟨g,o,rfl,hcell⟩:=cl_cells hLr hlt;have hgw:g<w.heap.size:=by
   obtain⟨g',o',e',h'⟩:=hL (by omega)
   cases e'
   exact cell_lt (h' 0 (by omega))
  have htk:=cl_take hlt;have hcw:=hLw _ (cl_mem hlt);have hst:playA (fun _=>0) (L.take (i+1))=(L.getD i ⟨0,0,0⟩).arr (playA (fun _=>0) (L.take i)):=by rw[htk,playA_snoc]
  generalize L.getD i ⟨0,0,0⟩=c at *;generalize playA (fun _=>0) (L.take i)=a0 at *;conv=>whnf
  refine CW.seq tt_ok ?_;conv=>whnf
  repeat ((first|refine Br.y ?_);conv=>whnf)
  refine CW.seq tt_ok ?_;conv=>whnf
  refine CW.cut (ι:=CS) (fun Q w'=>Sane own2 d2 ch2 a0 i K2 Q w'/\Keep [ch2] wr w') (fun _=>[(0,.slice (some ⟨g,o,none⟩) L.length cA),(1,.slice C Z.length cC),(6,.pointer (some ⟨d1,0,none⟩)),(8,.pointer (some ⟨ch2,0,none⟩)),(9,.pointer (some ⟨d2,0,none⟩)),(11,.pointer (some ⟨x11,0,none⟩)),(12,.int .i64 i)]) tt_ok ?_ ?_
  ·by_cases hz:i<Z.length
   ·have hZr:=hZ.keep0 kk;obtain⟨gz,oz,rfl,hcz⟩:=hZr (by omega);have cz:wr.cell? ⟨gz,oz+i,none⟩=some (.int .i64 (Z.getD i 0)):=hcz i hz;have hzw:=hZw _ (lst_mem hz);conv=>whnf
    repeat ((first|(refine Ix.of i (by omega) (by omega) ?_)|(refine Ld.at (by omega) cz ?_)|refine Br.y ?_);conv=>whnf)
    refine Ca.of (some_ok _ 196608 hzw (by omega) wr) ?_;rintro _ _ ⟨rfl,rfl⟩;have hbt:someN (Z.getD i 0) 196608<196608:=someN_lt _ (by omega);generalize someN (Z.getD i 0) 196608=bt at *;obtain⟨Ch,HC,hA,hl⟩:=S2.on.chip;conv=>whnf
    repeat ((first|(refine Dv.q ?_)|(refine Dv.r ?_));conv=>whnf)
    rw[show((bt:Nat):Int)/2048=((bt/2048:Nat):Int) by omega,show((bt:Nat):Int)/512%4=((bt/512%4:Nat):Int) by omega];refine Ca.of (ndamage_ok wr ch2 (bt/2048) (bt/512%4) Ch HC (by omega) (by omega)) ?_;rintro _ w2 ⟨rfl,k2⟩;have HC2:=Row.keep HC k2 (by simp);by_cases hw2:(Ch.ch (bt/2048) (bt/512%4)).worst<2
    ·conv=>whnf
     repeat ((first|(refine Br.is (decide_eq_true hw2) ?_)|(refine Dv.r ?_)|refine Br.t ?_|refine Pk.t ?_|refine Ru.eql_nil0 ?_);conv=>whnf)
     rw[show((bt:Nat):Int)%2048=((bt%2048:Nat):Int) by omega];refine Ca.of (flip_ok w2 ch2 (bt/2048) (bt%2048) Ch HC2 hA.wf (by omega) (by omega)) ?_;rintro _ w3 ⟨rfl,HC3,k3⟩;obtain⟨x,hA3⟩:=hA.flip (a:=bt/2048) (bit:=bt%2048) (by omega) (by omega) (by rw[show bt%2048/512=bt/512%4 by omega];exact hw2);obtain⟨k,W⟩:=S2.wi;conv=>whnf
     exact⟨_,⟨⟨(S2.on.keep0 k2).rechip k3 HC3 hA3 hl,⟨k,W.same rfl W.hb W.cur rfl⟩,S2.rm.same rfl rfl rfl (fun _ h=>h),S2.nm,S2.nx⟩,(k2.mono (by simp)).trans k3⟩,⟨rfl,rfl,rfl,rfl,rfl,rfl,rfl,trivial⟩⟩
    ·conv=>whnf
     repeat ((first|(refine Br.isnt (decide_eq_false hw2) ?_)|refine Br.t ?_|refine Pk.t ?_|refine Ru.eql_nil0 ?_);conv=>whnf)
     exact⟨P2,⟨S2.keep0 k2,k2.mono (by simp)⟩,⟨rfl,rfl,rfl,rfl,rfl,rfl,rfl,trivial⟩⟩
   ·conv=>whnf
    repeat ((first|refine Br.n ?_);conv=>whnf)
    exact⟨P2,⟨S2,Keep.refl _ _⟩,⟨rfl,rfl,rfl,rfl,rfl,rfl,rfl,trivial⟩⟩
  rintro Q w2 ⟨S2',k2⟩;have hgn:∀ {S:List Nat},(∀x,x∈S->w.heap.size<=x)->g∉S:=fun h hm=>by
   have:=h g hm;omega
  have S2o:=S2.on;have hch2:∀x,x∈[ch2]->w.heap.size<=x:=fun x hx=>by
   rw[List.mem_singleton.1 hx];exact new2 _ S2o.in_own.2
  have S1:=S1.other S2o (k2.mono (T:=own2) (fun x hx=>by rw[List.mem_singleton.1 hx];exact S2o.in_own.2)) (fun x hx hm=>dis x hm hx);have r11:=r11.keep k2 (fun hm=>S2o.far r11 (by decide) (by rw[List.mem_singleton.1 hm];exact S2o.in_own.2));have kk:=kk.then k2 (fun x hx=>.inr (hch2 x hx));have hc:∀j,j<3->w2.cell? ⟨g,o+i*3+j,none⟩=some (c.cell j):=fun j hj=>(k2.cell (cell_lt (hcell j hj)) (hgn hch2)).trans (hcell j hj);have S2:=S2';clear S2' S2o k2 hcell hLr hch2;have hi2:i<=1048576:=by omega
  conv=>whnf
  refine CW.held (fun w'=>Row w' x11 28 24 (arF a0)/\∀j,j<3->w'.cell? ⟨g,o+i*3+j,none⟩=some (c.cell j)) [] (.take 0 (.take 1 (.take 2 (.take 3 (.take 4 (.take 5 (.two 6 (.take 7 (.take 8 (.take 9 (.take 10 (.one 11 (.one 12 (.take 13 (.take 14 (.done))))))))) 11 (.one 6 (.take 7 (.take 8 (.take 9 (.take 10 (.one 12 (.take 13 (.take 14 (.done)))))))))))))))) tt_ok (by kernel_rfl) (by kernel_rfl) (by kernel_rfl) ?_ ?_
  ·exact⟨Row.drewN r11 1,hc⟩
  have q3:=(Keep.refl [] w2).drewN 1;have S1:=S1.keep0 q3;have S2:=S2.keep0 q3;have r11:=r11.keep q3 (by simp);have hc:∀j,j<3->(w2.drewN 1).cell? ⟨g,o+i*3+j,none⟩=some (c.cell j):=hc;have kk:=kk.trans q3;clear q3;generalize w2.drewN 1=w3 at *;conv=>whnf
  repeat ((first|(refine RuQ.of (fun w hS=>run_ldaC (q:=arF a0) hS.1 Tryz.underlying28 rfl size_ar (by omega) (fun j hj=>by rw[Nat.zero_add])) ?_)|(refine Ix.of i (by omega) (by omega) ?_)|(refine RuQ.of (fun w hS=>run_ldcl hS.2) ?_));conv=>whnf)
  refine And.intro ?_ ?_
  case' refine_1 =>
   refine Ca.of (sane_ok S1 hi2 hcw) ?_;rintro _ w4 ⟨k4,K1',P1',own1',Y1,n1,e1,f1,rfl,S1',sub,A1⟩;have lt2:=S2.on.own_lt;have S2:=S2.other S1.on k4 dis;have r11:=r11.keep k4 (S1.on.far r11 (by decide));have hc:∀j,j<3->w4.cell? ⟨g,o+i*3+j,none⟩=some (c.cell j):=fun j hj=>(k4.cell (cell_lt (hc j hj)) (hgn new1)).trans (hc j hj);have hYb:=A1.blk;have Y1r:=A1.rd0;have hs3:=kk.size;have hs4:=k4.size;have kk:=kk.then k4 (fun x hx=>.inr (new1 x hx));have subA:∀x,x∈own1'->x∈own1\/w3.heap.size<=x:=sub;refine⟨⟨r11,hc⟩,?_⟩;conv=>whnf
   refine Ru.alloca (alloc_ar w4) ?_;intro x19 w5 hx19 hs5 r19 k5;refine⟨⟨r11.keep k5 (by simp),fun j hj=>(k5.cell (cell_lt (hc j hj)) (by simp)).trans (hc j hj)⟩,?_⟩;conv=>whnf
   refine Ru.sta r19 size_ar (by omega) (fun j hj=>arF_one _ j) ?_;intro w6 r19b k6;have q6:Keep [] w4 w6:=k5.then k6 (fun x hx=>.inr (by rw[List.mem_singleton.1 hx,hx19];exact Nat.le_refl _));have hxa:w.heap.size<=x19:=by omega
   have hxn:x11≠x19:=by
    have:=r11.lt;omega
   have hYo:∀x,x∈blk Y1->w3.heap.size<=x:=fun x hx=>(hYb x hx).1;have hY1l:∀x,x∈blk Y1->x<w6.heap.size:=fun x hx=>by
    have:=(hYb x hx).2;have:=q6.size;omega
   have S1':=S1'.keep0 q6;have S2:=S2.keep0 q6;have r11:=r11.keep q6 (by simp);have hc:∀j,j<3->w6.cell? ⟨g,o+i*3+j,none⟩=some (c.cell j):=fun j hj=>(q6.cell (cell_lt (hc j hj)) (by simp)).trans (hc j hj);have Y1r:=Y1r.keep0 q6;have kk:=kk.trans q6;clear k4 k5 k6 q6 r19 hYb hs4 hs5 hx19;refine⟨⟨r11,hc⟩,?_⟩;conv=>whnf
  case' refine_2 =>
   refine Ru.alloca (alloc_ar w3) ?_;intro x19 w4 hx19 hs5 r19 k5;have hs3:=kk.size;have hxa:w.heap.size<=x19:=by omega
   have hxn:x11≠x19:=by
    have:=r11.lt;omega
   have hgx:g∉[x19]:=hgn (fun x hx=>by rw[List.mem_singleton.1 hx];exact hxa);have lt2:=S2.on.own_lt;have S1:=S1.keep0 k5;have S2:=S2.keep0 k5;have r11:=r11.keep k5 (by simp);have hc:∀j,j<3->w4.cell? ⟨g,o+i*3+j,none⟩=some (c.cell j):=fun j hj=>(k5.cell (cell_lt (hc j hj)) (by simp)).trans (hc j hj);have kk:=kk.trans k5;refine⟨⟨r11,hc⟩,?_⟩;conv=>whnf
   refine Ca.of (sane_ok S1 hi2 hcw) ?_;rintro _ w5 ⟨k4,K1',P1',own1',Y1,n1,e1,f1,rfl,S1',sub,A1⟩;have S2:=S2.other S1.on k4 dis;have r11:=r11.keep k4 (S1.on.far r11 (by decide));have hc:∀j,j<3->w5.cell? ⟨g,o+i*3+j,none⟩=some (c.cell j):=fun j hj=>(k4.cell (cell_lt (hc j hj)) (hgn new1)).trans (hc j hj);have hYb:=A1.blk;have Y1r:=A1.rd0;have hs4:=k4.size;have r19x:=r19.keep k4 (S1.on.far r19 (by decide));have kk:=kk.then k4 (fun x hx=>.inr (new1 x hx));refine⟨⟨r11,hc⟩,?_⟩;conv=>whnf
   refine Ru.sta r19x size_ar (by omega) (fun j hj=>arF_one _ j) ?_;intro w6 r19b k6;have hYx:∀x,x∈blk Y1->x∉[x19]:=fun x hx hm=>by
    have:=(hYb x hx).1;rw[List.mem_singleton.1 hm] at this;omega
   have hYo:∀x,x∈blk Y1->w3.heap.size<=x:=fun x hx=>by
    have:=(hYb x hx).1;omega
   have hY1l:∀x,x∈blk Y1->x<w6.heap.size:=fun x hx=>by
    have:=(hYb x hx).2;have:=k6.size;omega
   have S1':=S1'.away r19x (by decide) k6;have S2:=S2.away r19x (by decide) k6;have r11:=r11.keep k6 (by simpa using hxn);have hc:∀j,j<3->w6.cell? ⟨g,o+i*3+j,none⟩=some (c.cell j):=fun j hj=>(k6.cell (cell_lt (hc j hj)) hgx).trans (hc j hj);have Y1r:=Y1r.keep k6 (fun a e hm=>hYx _ (by rw[e];exact List.mem_singleton.2 rfl) hm);have kk:=kk.then k6 (fun x hx=>.inr (by rw[List.mem_singleton.1 hx];exact hxa));have subA:∀x,x∈own1'->x∈own1\/w3.heap.size<=x:=fun x hx=>(sub x hx).imp id (fun y=>by omega);clear k4 k5 k6 r19 r19x hYb hYx hs4 hgx;refine⟨⟨r11,hc⟩,?_⟩;conv=>whnf
  all_goals
   have r19:Row w6 x19 28 24 (arF (c.arr a0)):=r19b.congr (fun j hj=>by unfold lay;rw[if_pos (by omega),Nat.sub_zero]);have hx19l:=r19.lt;have dis:∀x,x∈own1'->x∉own2:=fun x hx hm=>by
    rcases subA x hx with y|y
    ·exact dis x y hm
    ·have:=lt2 x hm;omega
   have new1:∀x,x∈own1'->w.heap.size<=x:=fun x hx=>by
    rcases subA x hx with y|y
    ·exact new1 x y
    ·omega
   have hY1o:∀x,x∈blk Y1->x∉own2:=fun x hx hm=>by
    have:=lt2 x hm;have:=hYo x hx;omega
   have S1:=S1';clear S1' hYo lt2 subA sub hs3 r19b;conv=>whnf
   refine CW.held (fun w'=>Row w' x11 28 24 (arF a0)/\∀j,j<3->w'.cell? ⟨g,o+i*3+j,none⟩=some (c.cell j)) [] (.take 0 (.take 1 (.take 2 (.take 3 (.take 4 (.take 5 (.two 6 (.take 7 (.take 8 (.take 9 (.take 10 (.one 11 (.one 12 (.take 13 (.take 14 (.done))))))))) 11 (.one 6 (.take 7 (.take 8 (.take 9 (.take 10 (.one 12 (.take 13 (.take 14 (.done)))))))))))))))) tt_ok (by kernel_rfl) (by kernel_rfl) (by kernel_rfl) ?_ ?_
   ·exact⟨Row.drewN r11 1,hc⟩
   have q3:=(Keep.refl [] w6).drewN 1;have S1:=S1.keep0 q3;have S2:=S2.keep0 q3;have r11:=r11.keep q3 (by simp);have hc:∀j,j<3->(w6.drewN 1).cell? ⟨g,o+i*3+j,none⟩=some (c.cell j):=hc;have kk:=kk.trans q3;have Y1r:=Y1r.keep0 q3;have r19:=r19.keep q3 (by simp);have hY1l:∀x,x∈blk Y1->x<(w6.drewN 1).heap.size:=hY1l;clear q3;generalize w6.drewN 1=w7 at *;conv=>whnf
   repeat ((first|(refine RuQ.of (fun w hS=>run_ldaC (q:=arF a0) hS.1 Tryz.underlying28 rfl size_ar (by omega) (fun j hj=>by rw[Nat.zero_add])) ?_)|(refine Ix.of i (by omega) (by omega) ?_)|(refine RuQ.of (fun w hS=>run_ldcl hS.2) ?_));conv=>whnf)
   refine And.intro ?_ ?_
   case' refine_1 =>
    refine Ca.of (sane_ok S2 hi2 hcw) ?_;rintro _ w8 ⟨k4,K2',P2',own2',Y2,n2,e2,f2,rfl,S2',sub,A2⟩;have lt2:=S1.on.own_lt;have S1:=S1.other S2.on k4 (fun x hx hm=>dis x hm hx);have r11:=r11.keep k4 (S2.on.far r11 (by decide));have hc:∀j,j<3->w8.cell? ⟨g,o+i*3+j,none⟩=some (c.cell j):=fun j hj=>(k4.cell (cell_lt (hc j hj)) (hgn new2)).trans (hc j hj);have hYb:=A2.blk;have Y2r:=A2.rd0;have hs3:=kk.size;have hs4:=k4.size;have Y1r:=Y1r.keep k4 (fun a e hm=>hY1o _ (by rw[e];exact List.mem_singleton.2 rfl) hm);have r19:=r19.keep k4 (S2.on.far r19 (by decide));have kk:=kk.then k4 (fun x hx=>.inr (new2 x hx));have subA:∀x,x∈own2'->x∈own2\/w7.heap.size<=x:=sub;refine⟨⟨r11,hc⟩,?_⟩;conv=>whnf
    refine Ru.alloca (alloc_ar w8) ?_;intro x22 w9 hx22 hs5 r22 k5;refine⟨⟨r11.keep k5 (by simp),fun j hj=>(k5.cell (cell_lt (hc j hj)) (by simp)).trans (hc j hj)⟩,?_⟩;conv=>whnf
    refine Ru.sta r22 size_ar (by omega) (fun j hj=>arF_one _ j) ?_;intro w10 r22b k6;have q6:Keep [] w8 w10:=k5.then k6 (fun x hx=>.inr (by rw[List.mem_singleton.1 hx,hx22];exact Nat.le_refl _));have hxa:w.heap.size<=x22:=by omega
    have hxn:x11≠x22:=by
     have:=r11.lt;omega
    have hYo:∀x,x∈blk Y2->w7.heap.size<=x:=fun x hx=>(hYb x hx).1;have hY2l:∀x,x∈blk Y2->x<w10.heap.size:=fun x hx=>by
     have:=(hYb x hx).2;have:=q6.size;omega
    have S2':=S2'.keep0 q6;have S1:=S1.keep0 q6;have r11:=r11.keep q6 (by simp);have hc:∀j,j<3->w10.cell? ⟨g,o+i*3+j,none⟩=some (c.cell j):=fun j hj=>(q6.cell (cell_lt (hc j hj)) (by simp)).trans (hc j hj);have Y2r:=Y2r.keep0 q6;have kk:=kk.trans q6;have Y1r:=Y1r.keep0 q6;have r19:=r19.keep q6 (by simp);clear k4 k5 k6 q6 r22 hYb hs4 hs5 hx22;refine⟨⟨r11,hc⟩,?_⟩;conv=>whnf
    repeat ((first|refine Br.f ?_|refine Pk.f ?_|refine Ru.neq_nil0 ?_|refine CW.s ?_);conv=>whnf)
   case' refine_2 =>
    refine Ru.alloca (alloc_ar w7) ?_;intro x22 w8 hx22 hs5 r22 k5;have hs3:=kk.size;have hxa:w.heap.size<=x22:=by omega
    have hxn:x11≠x22:=by
     have:=r11.lt;omega
    have hgx:g∉[x22]:=hgn (fun x hx=>by rw[List.mem_singleton.1 hx];exact hxa);have lt2:=S1.on.own_lt;have S1:=S1.keep0 k5;have S2:=S2.keep0 k5;have r11:=r11.keep k5 (by simp);have hc:∀j,j<3->w8.cell? ⟨g,o+i*3+j,none⟩=some (c.cell j):=fun j hj=>(k5.cell (cell_lt (hc j hj)) (by simp)).trans (hc j hj);have hx19l:=r19.lt;have Y1r:=Y1r.keep0 k5;have r19:=r19.keep k5 (by simp);have h1922:x19≠x22:=by
     have:=hx19l;omega
    have kk:=kk.trans k5;refine⟨⟨r11,hc⟩,?_⟩;conv=>whnf
    refine Ca.of (sane_ok S2 hi2 hcw) ?_;rintro _ w9 ⟨k4,K2',P2',own2',Y2,n2,e2,f2,rfl,S2',sub,A2⟩;have S1:=S1.other S2.on k4 (fun x hx hm=>dis x hm hx);have r11:=r11.keep k4 (S2.on.far r11 (by decide));have hc:∀j,j<3->w9.cell? ⟨g,o+i*3+j,none⟩=some (c.cell j):=fun j hj=>(k4.cell (cell_lt (hc j hj)) (hgn new2)).trans (hc j hj);have hYb:=A2.blk;have Y2r:=A2.rd0;have hs4:=k4.size;have r22x:=r22.keep k4 (S2.on.far r22 (by decide));have Y1r:=Y1r.keep k4 (fun a e hm=>hY1o _ (by rw[e];exact List.mem_singleton.2 rfl) hm);have r19:=r19.keep k4 (S2.on.far r19 (by decide));have kk:=kk.then k4 (fun x hx=>.inr (new2 x hx));refine⟨⟨r11,hc⟩,?_⟩;conv=>whnf
    refine Ru.sta r22x size_ar (by omega) (fun j hj=>arF_one _ j) ?_;intro w10 r22b k6;have hYx:∀x,x∈blk Y2->x∉[x22]:=fun x hx hm=>by
     have:=(hYb x hx).1;rw[List.mem_singleton.1 hm] at this;omega
    have hYo:∀x,x∈blk Y2->w7.heap.size<=x:=fun x hx=>by
     have:=(hYb x hx).1;omega
    have hY2l:∀x,x∈blk Y2->x<w10.heap.size:=fun x hx=>by
     have:=(hYb x hx).2;have:=k6.size;omega
    have S2':=S2'.away r22x (by decide) k6;have S1:=S1.away r22x (by decide) k6;have r11:=r11.keep k6 (by simpa using hxn);have hc:∀j,j<3->w10.cell? ⟨g,o+i*3+j,none⟩=some (c.cell j):=fun j hj=>(k6.cell (cell_lt (hc j hj)) hgx).trans (hc j hj);have Y2r:=Y2r.keep k6 (fun a e hm=>hYx _ (by rw[e];exact List.mem_singleton.2 rfl) hm);have kk:=kk.then k6 (fun x hx=>.inr (by rw[List.mem_singleton.1 hx];exact hxa));have Y1r:=Y1r.keep k6 (fun a e hm=>by
     have h1:=hY1l _ (show a.block∈blk Y1 by rw[e];exact List.mem_singleton.2 rfl);have h2:=List.mem_singleton.1 hm;omega)
    have r19:=r19.keep k6 (by simpa using h1922);have subA:∀x,x∈own2'->x∈own2\/w7.heap.size<=x:=fun x hx=>(sub x hx).imp id (fun y=>by omega);clear k4 k5 k6 r22 r22x hYb hYx hs4 hgx;refine⟨⟨r11,hc⟩,?_⟩;conv=>whnf
    repeat ((first|refine Br.f ?_|refine Pk.f ?_|refine Ru.neq_nil0 ?_|refine CW.s ?_);conv=>whnf)
   all_goals
    have dis:∀x,x∈own1'->x∉own2':=fun x hx hm=>by
     rcases subA x hm with y|y
     ·exact dis x hx y
     ·have:=lt2 x hx;omega
    have new2:∀x,x∈own2'->w.heap.size<=x:=fun x hx=>by
     rcases subA x hx with y|y
     ·exact new2 x y
     ·omega
    refine Ru.bytesStr Tryz.underlying37 Tryz.underlying5 Tryz.underlying9 Y1r ?_;conv=>whnf
    repeat ((first|refine Br.f ?_);conv=>whnf)
    refine Ru.bytesStr Tryz.underlying37 Tryz.underlying5 Tryz.underlying9 Y2r ?_;conv=>whnf
    repeat ((first|refine Br.f ?_);conv=>whnf)
    refine Ru.neqStr (A1.str A2) ?_;conv=>whnf
    repeat ((first|refine Br.f ?_|refine Pk.f ?_);conv=>whnf)
    refine Ru.ldaC (q:=arF (c.arr a0)) r19 Tryz.underlying28 rfl size_ar (by omega) (fun j hj=>by rw[Nat.zero_add]) ?_;conv=>whnf
    refine Ru.sta r11 size_ar (by omega) (fun j hj=>arF_one _ j) ?_;intro w11 r11b k11;have r11b:Row w11 x11 28 24 (arF (c.arr a0)):=r11b.congr (fun j hj=>by unfold lay;rw[if_pos (by omega),Nat.sub_zero]);conv=>whnf
    repeat ((first|refine Ar.la ?_);conv=>whnf)
    exact⟨(i+1,K1',P1',own1',K2',P2',own2'),⟨hlt,by simp only;rw[hst];exact S1.away r11 (by decide) k11,by simp only;rw[hst];exact S2'.away r11 (by decide) k11,dis,new1,new2,by simp only;rw[hst];exact r11b,kk.then k11 (fun x hx=>.inr (by rw[List.mem_singleton.1 hx];exact hx11w))⟩,⟨rfl,rfl,rfl,rfl,rfl,rfl,vi (by simp only;omega),trivial⟩,by simp only;omega⟩
 ·obtain rfl:i=L.length:=by omega
  rw[List.take_length] at *;obtain⟨k1,W1⟩:=S1.wi;obtain⟨k2,W2⟩:=S2.wi;have ha:∀o,playA (fun _=>0) L o<=1000000:=playA_le (fun _=>by show 0<=1000000;omega) L;generalize playA (fun _=>0) L=a0 at *;conv=>whnf
  repeat ((first|refine Br.n ?_|refine CW.s ?_);conv=>whnf)
  refine Ru.ldaC (q:=arF a0) r11 Tryz.underlying28 rfl size_ar (by omega) (fun j hj=>by rw[Nat.zero_add]) ?_;conv=>whnf
  refine Ca.of (showingw_ok S1.on W1 ha) ?_;rintro _ w2 ⟨rfl,K1',P1',own1',PW⟩;have S2:=S2.other S1.on PW.kk dis;have r11:=r11.keep PW.kk (S1.on.far r11 (by decide));have kk2:=kk.then PW.kk (fun x hx=>.inr (new1 x hx));conv=>whnf
  repeat ((first|refine Br.t ?_);conv=>whnf)
  refine Ru.ldaC (q:=arF a0) r11 Tryz.underlying28 rfl size_ar (by omega) (fun j hj=>by rw[Nat.zero_add]) ?_;conv=>whnf
  repeat ((first|refine Br.t ?_);conv=>whnf)
  refine Ca.of (showingw_ok S2.on W2 ha) ?_;rintro _ w3 ⟨rfl,K2',P2',own2',PW2⟩;conv=>whnf
  repeat ((first|refine Pk.t ?_);conv=>whnf)
  exact⟨rfl,rfl,kk2.then PW2.kk (fun x hx=>.inr (new2 x hx))⟩
end
section
open Go.RowKit Go.ChangeShapes Go.WideShapes Go.ChangeAt
namespace Bulk
theorem one_le{H:Type}(d:DataW H):1<=Rows.uptoBulk d:=by
 cases d with
 |lit l=>cases l<;>simp[Rows.uptoBulk]
 |nil=>simp[Rows.uptoBulk]
 |ptr d=>simp[Rows.uptoBulk]
 |slice elems spare=>simp[Rows.uptoBulk]
 |agg parts=>simp[Rows.uptoBulk]
 |iface t d=>simp[Rows.uptoBulk]
 |map entries=>simp[Rows.uptoBulk]
 |held h=>simp[Rows.uptoBulk]
theorem part_le{H:Type}{d:DataW H}{l:List (DataW H)}(h:d∈l):Rows.uptoBulk d<=Rows.uptoBulkAll l:=by
 induction l with
 |nil=>cases h
 | cons x r ih =>
  simp only[Rows.uptoBulkAll]
  cases List.mem_cons.1 h with
  |inl e=>subst e;omega
  |inr e=>have:=ih e;omega
theorem length_le{H:Type}(l:List (DataW H)):l.length<=Rows.uptoBulkAll l:=by
 induction l with
 |nil=>simp[Rows.uptoBulkAll]
 |cons x r ih=>have:=one_le x;simp only[Rows.uptoBulkAll,List.length_cons];omega
theorem slice_le{H:Type}(elems spare:List (DataW H)):elems.length+spare.length+1<=Rows.uptoBulk (.slice elems spare):=by
 have h1:=length_le elems;have h2:=length_le spare;simp only[Rows.uptoBulk];omega
theorem bound{H:Type}{l:List (DataW H)}(hk:Rows.uptoSmall H l=true):Rows.uptoBulkAll l<=1048576:=of_decide_eq_true hk
end Bulk
theorem bulk_row{H:Type}{enc:TypeId×Value->H}{P:Program}{W:World}{base:Nat}{spare:Nat->Bool}{held:Bool}{t e:TypeId}{k:IntKind}{a:Option Addr}{len cap:Nat}{d:DataW H}{ps:List MemPlace}{ds:List (DataW H)}{j:Nat}
  (hk:Rows.uptoSmall H ds=true) (hd:ds[j]?=some d) (hu:P.underlying t=some (.slice e)) (he:P.underlying e=some (.int k)) (hc:P.cellsOf e=1)
  (h:DataW.Trod enc P W base spare held t (.slice a len cap) d ps):len<=1048576:=by
 obtain⟨fuel,hf⟩:=h;rcases open_ints hu he hc hf with⟨hcs,_⟩|⟨x,l,c,zs,hcs,_,hl,_,hz,hx,_,_⟩
 ·simp[Value.cells] at hcs;obtain⟨_,rfl,_⟩:=hcs;simp
 ·simp[Value.cells] at hcs;obtain⟨rfl,rfl,rfl⟩:=hcs;obtain⟨hx,_⟩:=Prod.mk.inj hx;subst hx;have hl2:len<=zs.length:=by
   rw[hz];split
   ·exact hl
   ·exact Nat.le_refl _
  have h1:(lits (H:=H) k (zs.take len)).length+(lits (H:=H) k (zs.drop len)).length=zs.length:=by
   simp[lits];omega
  have h2:=Bulk.slice_le (lits (H:=H) k (zs.take len)) (lits (H:=H) k (zs.drop len));have h3:=Bulk.part_le (List.mem_of_getElem? hd);have h4:=Bulk.bound hk;omega
end
section
open Go.RowKit Go.ChangeShapes Go.WideShapes Go.Deep
section
variable{H:Type}{enc:TypeId×Value->H}{P:Program}{W:World}{base:Nat}{spare:Nat->Bool}{held:Bool}{t e:TypeId}{fs:Array Field}{a:Option Addr}{len cap C:Nat}{d:DataW H}{ps:List MemPlace}
theorem slArg_structs(ht:P.underlying t=some (.slice e))(he:P.underlying e=some (.struct fs))(hone:oneCellFields P fs=true)(hC:P.cellsOf e=C)(hfs:fs.size=C)(h:DataW.Trod enc P W base spare held t (.slice a len cap) d ps) :
  len<=cap/\cap<=maxLen/\(a=none->cap=0)/\∃F:Nat->Nat->Value,Rd W a (len*C) (fun q=>F (q/C) (q%C)) /\
   ∀i,i<len->∀(j:Nat) (f:Field),fs[j]?=some f->∃n y,DataW.trod enc P W base spare held n f.type [F i j]=some y:=by
 obtain⟨fuel,hf⟩:=h;rcases open_slice ht hf with⟨hcs,_⟩|⟨x,l,c,m,n,D,Pl,hcs,_,hl,hm,hmm,_,hi⟩
 ·simp[Value.cells] at hcs;obtain⟨rfl,rfl,rfl⟩:=hcs;exact⟨Nat.le_refl _,by simp[maxLen],fun _=>rfl,fun _ _=>.nilIface,by rw[Nat.zero_mul];exact Rd.nil _ _ _,fun i h=>absurd h (by omega)⟩
 ·simp[Value.cells] at hcs;obtain⟨rfl,rfl,rfl⟩:=hcs;have hlm:len<=m:=by
   rw[hmm];split
   ·exact hl
   ·exact Nat.le_refl _
  refine⟨hl,hm,fun h=>by simp at h,fun i j=>(W.cell? (x.add (i*C+j))).getD .nilIface,?_,?_⟩
  ·intro hn;have hC0:0<C:=by
    rcases Nat.eq_zero_or_pos C with h0|h0
    ·rw[h0] at hn;simp at hn
    ·exact h0
   have hl0:0<len:=by
    rcases Nat.eq_zero_or_pos len with h0|h0
    ·rw[h0] at hn;simp at hn
    ·exact h0
   have hsome:∀i,i<len->∀j,j<C->∃v,W.cell? (x.add (i*C+j))=some v:=by
    intro i h1 j h2;obtain⟨cs',hc,_⟩:=hi i (by omega);rw[hC] at hc;obtain⟨_,hcl,hat⟩:=World.cells?_some hc;have:=hat j h2;rw[Go.Deep.add_add] at this;rw[this];exact⟨_,List.getElem?_eq_getElem (by omega)⟩
   obtain⟨v0,h00⟩:=hsome 0 hl0 0 hC0;have hs:=spot_of_cell h00;have hs2:x.spot=none:=by
    unfold Addr.add at hs;simpa using hs
   refine⟨x.block,x.off,?_,fun q hq=>?_⟩
   ·obtain⟨b,o,s⟩:=x;simp at hs2;subst hs2;rfl
   ·have h1:q/C<len:=Nat.div_lt_of_lt_mul (by rw[Nat.mul_comm];exact hq);have h2:q%C<C:=Nat.mod_lt _ hC0;obtain⟨v,hv⟩:=hsome (q/C) h1 (q%C) h2;have e1:q/C*C+q%C=q:=by rw[Nat.mul_comm];exact Nat.div_add_mod q C
    rw[e1] at hv;rw[<-of_add hs2 q];show _=some ((W.cell? (x.add (q/C*C+q%C))).getD .nilIface);rw[e1,hv];rfl
  ·intro i h1 j f hj;have hjl:j<fs.size:=(Array.getElem?_eq_some_iff.1 hj).1;obtain⟨cs',hc,ht'⟩:=hi i (by omega);rw[hC] at hc;obtain⟨ys,n',_,_,_,hyl,hff⟩:=DataW.trod_struct he ht';obtain⟨_,hcl,hat⟩:=World.cells?_some hc;obtain⟨ho,hk⟩:=hone_of hone j f hj;have h3:=hff j f hj;rw[ho,hk] at h3;have hj2:j<cs'.length:=by omega
   rw[List.drop_eq_getElem_cons hj2] at h3;simp only[List.take_succ_cons,List.take_zero] at h3;have h4:=hat j (by omega);rw[Go.Deep.add_add,List.getElem?_eq_getElem hj2] at h4;refine⟨n',ys[j]'(by omega),?_⟩
   ·show DataW.trod enc P W base spare held n' f.type [(W.cell? (x.add (i*C+j))).getD .nilIface]=_;rw[h4];simp only[Option.getD_some];rw[h3];exact List.getElem?_eq_getElem _
theorem sized_structs{ts:List TypeId}{ds:List (DataW H)}{j B:Nat}(hsz:(DataW.weightsEach P ts ds).all (· <= reachBytes)=true)(hj:ts[j]?=some t)(hd:ds[j]?=some d)(ht:P.underlying t=some (.slice e))(hB:P.bytesOf e=B)
  (h:DataW.Trod enc P W base spare held t (.slice a len cap) d ps):len*B<=140737488351232:=by
 obtain⟨fuel,hf⟩:=h;rcases open_slice ht hf with⟨hcs,_⟩|⟨x,l,c,m,n,D,Pl,hcs,_,hl,hm,hmm,hx,hi⟩
 ·simp[Value.cells] at hcs;obtain⟨_,rfl,_⟩:=hcs;simp
 ·simp[Value.cells] at hcs;obtain⟨rfl,rfl,rfl⟩:=hcs;obtain⟨hx,_⟩:=Prod.mk.inj hx;subst hx;have z:=sized_slice hsz hj hd ht;rw[hB] at z;have h2:len<=((List.range len).map D).length+((List.range (m-len)).map fun j=>D (len+j)).length:=by
   simp
  exact Nat.le_trans (Nat.mul_le_mul_right _ h2) z
theorem field_int{k:IntKind}{n:Nat}{v:Value}{y:DataW H×List MemPlace}(hu:P.underlying t=some (.int k))(h:DataW.trod enc P W base spare held n t [v]=some y):v=.int k (intOf v)/\(Lit.int k (intOf v)).wf=true:=by
 obtain⟨m,hm,hw⟩:=DataW.trod_int hu h;simp at hm;subst hm;exact⟨rfl,hw.2⟩
end
end
section
open Go.RowKit Go.ChangeShapes Go.WideShapes Go.ChangeAt Go.Deep
theorem bulk_structs{H:Type}{enc:TypeId×Value->H}{P:Program}{W:World}{base:Nat}{spare:Nat->Bool}{held:Bool}{t e:TypeId}{a:Option Addr}{len cap:Nat}{d:DataW H}{ps:List MemPlace}{ds:List (DataW H)}{j:Nat}
  (hk:Rows.uptoSmall H ds=true) (hd:ds[j]?=some d) (ht:P.underlying t=some (.slice e))
  (h:DataW.Trod enc P W base spare held t (.slice a len cap) d ps):len<=1048576:=by
 obtain⟨fuel,hf⟩:=h;rcases open_slice ht hf with⟨hcs,_⟩|⟨x,l,c,m,n,D,Pl,hcs,_,hl,hm,hmm,hx,hi⟩
 ·simp[Value.cells] at hcs;obtain⟨_,rfl,_⟩:=hcs;simp
 ·simp[Value.cells] at hcs;obtain⟨rfl,rfl,rfl⟩:=hcs;obtain⟨hx,_⟩:=Prod.mk.inj hx;subst hx;have h2:=Bulk.slice_le ((List.range len).map D) ((List.range (m-len)).map fun j=>D (len+j));have h3:=Bulk.part_le (List.mem_of_getElem? hd);have h4:=Bulk.bound hk;have h5:((List.range len).map D).length=len:=by simp
  omega
theorem Spec.calls{P:Program}{f:FuncId}{args:Array Value}{w:World}{V:Value}{Φ:World->Prop}(h:Spec P f args w fun v w'=>v=V/\Φ w'):Calls P f args w fun e w'=>e=.returned V/\Φ w':=h.2.mono fun e w' ⟨v,he,hv,hk⟩=>⟨by rw[he,hv],hk⟩
end
section
open Go.RowKit Go.ChangeShapes Go.WideShapes Go.ChangeAt Go.Deep
theorem cl_list{w:World}{A:Option Addr}{len:Nat}{F:Nat->Nat->Value}(r:Rd w A (len*3) (fun q=>F (q/3) (q%3)))
  (h:∀i,i<len->∃c:Cl,c.wf/\F i 0=.int .i64 c.kind/\F i 1=.int .i64 c.a/\F i 2=.int .i64 c.x) :
  ∃L:List Cl,L.length=len/\Rd w A (L.length*3) (clF L)/\∀c,c∈L->c.wf:=by
 let g:Nat->Cl:=fun i=>⟨intOf (F i 0),intOf (F i 1),intOf (F i 2)⟩
 have hg:∀i,i<len->(g i).wf/\F i 0=.int .i64 (g i).kind/\F i 1=.int .i64 (g i).a/\F i 2=.int .i64 (g i).x:=by
  intro i hi;obtain⟨c,hw,h0,h1,h2⟩:=h i hi;have e:g i=c:=by
   show Cl.mk (intOf (F i 0)) (intOf (F i 1)) (intOf (F i 2))=c;rw[h0,h1,h2];rfl
  rw[e];exact⟨hw,h0,h1,h2⟩
 refine⟨(List.range len).map g,by simp,?_,?_⟩
 ·rw[List.length_map,List.length_range];refine r.congr fun q hq=>?_;have h1:q/3<len:=by omega
  have e:((List.range len).map g).getD (q/3) ⟨0,0,0⟩=g (q/3):=by
   rw[List.getD_eq_getElem?_getD,List.getElem?_map,List.getElem?_range h1];rfl
  unfold clF;rw[e];obtain⟨-,k0,k1,k2⟩:=hg _ h1;unfold Cl.cell;have hm:q%3<3:=Nat.mod_lt _ (by omega);rcases(by omega:q%3=0\/q%3=1\/q%3=2) with e|e|e
  ·rw[e,k0];rfl
  ·rw[e,k1];rfl
  ·rw[e,k2];rfl
 ·intro c hc;obtain⟨i,hi,rfl⟩:=List.mem_map.1 hc;exact(hg i (List.mem_range.1 hi)).1
theorem in_list{w:World}{A:Option Addr}{len cap:Nat}{f:Nat->Int}(h:SlArg w A len cap (fun j=>.int .i64 (f j)))(hw:∀j,(Lit.int .i64 (f j)).wf=true) :
  ∃Z:List Int,Z.length=len/\Rd w A Z.length (inF Z)/\∀z,z∈Z->i64R z:=by
 refine⟨(List.range len).map f,by simp,?_,?_⟩
 ·rw[List.length_map,List.length_range];refine h.rd.congr fun q hq=>?_;unfold inF;rw[List.getD_eq_getElem?_getD,List.getElem?_map,List.getElem?_range hq];rfl
 ·intro z hz;obtain⟨i,hi,rfl⟩:=List.mem_map.1 hz;exact bounds_i64 (hw i)
end
namespace topHidden
open Go.RowKit Go.Joins Go.ChangeAt
theorem and_{a b:Bool}(h:a=true)(k:b=true):(a&&b)=true:=by rw[h,k];rfl
theorem j0:(Rows.topHiddenUptoRow.wf (OpenSpec.ofChange (Rows.OpenSpec.upto Rows.topHiddenSpec).bare):Bool)=true:=by kernel_rfl
theorem j1:(laidOutB Tryz.pinned.checked.prog:Bool)=true:=by kernel_rfl
theorem j2:(mapsRowed Tryz.pinned.checked.prog:Bool)=true:=by kernel_rfl
theorem j3:((Tryz.f13).params.all (Tryz.pinned.checked.prog.readableRec ·):Bool)=true:=by kernel_rfl
theorem j4:(namedTie Tryz.pinned.checked.prog Rows.topHiddenUptoRow.named (Rows.OpenSpec.upto Rows.topHiddenSpec).bare.vars:Bool)=true:=by kernel_rfl
theorem j5:((Rows.topHiddenUptoRow.stops == []):Bool)=true:=by kernel_rfl
theorem j6:((Tryz.pinned.checked.prog.stops == []):Bool)=true:=by kernel_rfl
theorem j7:((Rows.topHiddenUptoRow.knobs == []):Bool)=true:=by kernel_rfl
theorem j8:((Tryz.pinned.checked.prog.stopKnobs == []):Bool)=true:=by kernel_rfl
theorem j9:((Rows.topHiddenUptoRow.inPlace == Tryz.pinned.checked.prog.inPlace 13):Bool)=true:=by kernel_rfl
theorem j10:((Rows.topHiddenUptoRow.unfollowed == Tryz.pinned.checked.prog.unfollowed 13):Bool)=true:=by kernel_rfl
theorem j11:((Rows.topHiddenUptoRow.recurses == Tryz.pinned.checked.prog.recurses 13):Bool)=true:=by kernel_rfl
theorem j12:((Rows.topHiddenUptoRow.named == Tryz.pinned.checked.prog.varsNamed 13):Bool)=true:=by kernel_rfl
theorem j13:((Rows.topHiddenUptoRow.maps == ((Tryz.f13).params.toList++(Rows.OpenSpec.upto Rows.topHiddenSpec).bare.plain.varTypes Tryz.pinned.checked.prog).any (Tryz.pinned.checked.prog.mapsRec ·)):Bool)=true:=by kernel_rfl
theorem j14:((Rows.topHiddenUptoRow.ifaces == ((Tryz.f13).params.toList++(Rows.OpenSpec.upto Rows.topHiddenSpec).bare.plain.varTypes Tryz.pinned.checked.prog).any (Tryz.pinned.checked.prog.ifacesRec ·)):Bool)=true:=by kernel_rfl
theorem j15:((Rows.topHiddenUptoRow.mapsOut == Tryz.pinned.checked.prog.mapsAmong (Tryz.f13).resultTypes.toList):Bool)=true:=by kernel_rfl
theorem j16:((Rows.topHiddenUptoRow.loops == ((Tryz.f13).params.toList++(Rows.OpenSpec.upto Rows.topHiddenSpec).bare.plain.varTypes Tryz.pinned.checked.prog).any (Tryz.pinned.checked.prog.loopsFrom ·)):Bool)=true:=by kernel_rfl
theorem j17:((Rows.topHiddenUptoRow.wideKeys == ((Tryz.f13).params.toList++(Rows.OpenSpec.upto Rows.topHiddenSpec).bare.plain.varTypes Tryz.pinned.checked.prog++(Tryz.f13).resultTypes.toList).any (Tryz.pinned.checked.prog.wideKeysFrom ·)):Bool)=true:=by kernel_rfl
theorem j18:((Rows.OpenSpec.upto Rows.topHiddenSpec).bare.vars.all (Tryz.pinned.checked.prog.varReadable ·):Bool)=true:=by kernel_rfl
theorem j19:((Tryz.f13).resultTypes.all (fun t=>Tryz.pinned.checked.prog.readableRec t&&decide (t<Tryz.pinned.checked.prog.types.size)):Bool)=true:=by kernel_rfl
theorem j20:((Rows.topHiddenUptoRow.ifacesOut == (Tryz.f13).resultTypes.toList.any (Tryz.pinned.checked.prog.ifacesRec ·)):Bool)=true:=by kernel_rfl
theorem j21:((Rows.topHiddenUptoRow.loopsOut == (Tryz.f13).resultTypes.toList.any (Tryz.pinned.checked.prog.loopsFrom ·)):Bool)=true:=by kernel_rfl
theorem j22:((Rows.topHiddenUptoRow.plainKeys == Tryz.pinned.checked.prog.plainKeys):Bool)=true:=by kernel_rfl
theorem j23:(Rows.topHiddenUptoRow.shortTexts.isNone:Bool)=true:=by kernel_rfl
theorem j24:(Tryz.pinned.checked.prog.stopsHeard:Bool)=true:=by kernel_rfl
theorem j25:(Tryz.pinned.checked.prog.mayEnter:Bool)=true:=by kernel_rfl
theorem j26:((Rows.topHiddenUptoRow.lifted == Tryz.pinned.checked.prog.liftsFinal):Bool)=true:=by kernel_rfl
theorem j27:((Tryz.pinned.checked.prog.make == some Rows.topHiddenUptoRow.make):Bool)=true:=by kernel_rfl
theorem j28:((Rows.topHiddenUptoRow.kinds == (if Rows.topHiddenUptoRow.domain.isEmpty then [] else (Tryz.f13).params.toList.map fun t=>match Tryz.pinned.checked.prog.underlying t with|some (.int k)=>some k|_=>none)):Bool)=true:=by kernel_rfl
theorem j29:((Rows.topHiddenUptoRow.pinned == Rows.topHiddenUptoRow.pinnedBy):Bool)=true:=by kernel_rfl
theorem j30:((Rows.topHiddenUptoRow.veiled == ((Tryz.f13).params.toList++(Rows.OpenSpec.upto Rows.topHiddenSpec).bare.plain.varTypes Tryz.pinned.checked.prog++(Tryz.f13).resultTypes.toList).any (Tryz.pinned.checked.prog.veiledRec ·)):Bool)=true:=by kernel_rfl
theorem j31:(Rows.topHiddenUptoRow.veiledFits Tryz.pinned.checked.prog (Tryz.f13).params.toList ((Tryz.f13).params.toList++(Rows.OpenSpec.upto Rows.topHiddenSpec).bare.plain.varTypes Tryz.pinned.checked.prog++(Tryz.f13).resultTypes.toList):Bool)=true:=by kernel_rfl
theorem closed:joinedFacts Tryz.pinned.checked.prog 13 Tryz.f13 (Rows.OpenSpec.upto Rows.topHiddenSpec).bare Rows.topHiddenUptoRow=true:=(and_ (and_ (and_ (and_ (and_ (and_ (and_ (and_ (and_ (and_ (and_ (and_ (and_ (and_ (and_ (and_ (and_ (and_ (and_ (and_ (and_ (and_ (and_ (and_ (and_ (and_ (and_ (and_ (and_ (and_ (and_ j0 j1) j2) j3) j4) j5) j6) j7) j8) j9) j10) j11) j12) j13) j14) j15) j16) j17) j18) j19) j20) j21) j22) j23) j24) j25) j26) j27) j28) j29) j30) j31)
theorem wrap:(Tryz.f13).isWrapper Tryz.pinned.checked.prog Rows.topHiddenUptoRow.wrapper Rows.topHiddenUptoRow.mainSum:=by unfold Func.isWrapper;first|(rw[if_pos (by decide +kernel)];kernel_rfl)|(rw[if_neg (by decide +kernel)];exact⟨rfl,rfl⟩)
end topHidden
end Go.Proofs.YtaeikigfgfcadaaGreat

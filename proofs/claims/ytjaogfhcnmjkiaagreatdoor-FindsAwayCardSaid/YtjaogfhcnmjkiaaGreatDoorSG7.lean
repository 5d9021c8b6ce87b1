/- joined. -/
import Derived.Test.YtjaogfhcnmjkiaaGreatDoorSG5
set_option linter.all false
set_option maxRecDepth 100000
set_option maxHeartbeats 0
namespace Go.Proofs.YtjaogfhcnmjkiaaGreatDoor
open Go.RowKit
open Go.Value renaming slice->aA,int->aB,agg->aC,string->aF,tuple->aG,pointer->aH,ownBlock->gTh
open Go.IntKind renaming i64->aI
open Option renaming none->aJ,some->aK
open Go.Ending renaming returned->aN
open Go.Obj renaming cells->aO
open Go.Proofs.Tryz
variable {h:Hp}{i j:Nat}{l:List Ls}{r:List Bk}
theorem Oa:∀f:Nat,f<=15->(bits .and .i64 (f:Int) 8=if f/8%2=1 then 8 else 0)/\(bits .and .i64 (f:Int) 1=if f%2=1 then 1 else 0):=by decide+kernel
theorem aAS (az am al av:Option Addr)(cz cm cl cv nl nv:Nat)(y0 y1:Zc)(lc:List Lc)(h:Hp)(i flags:Nat)(w:World)(hh:HAt w az am al av nl nv y0 y1 lc h)(hk:eY h)(hi:i<2)(hf:flags<=15):
 Calls prog 155 #[aC #[aA az 2 cz,aA am 2 cm,aB aI h.aAh,aA al nl cl,aA av nv cv],aB aI i,aB aI flags] w λev w'=>ev=aN (aB aI (h.held i (decide (flags/8%2=1)) (decide (flags%2=1)):Nat))/\Below w.heap.size w w':=by
 have hb:=aAq w (aO #[aA az 2 cz,aA am 2 cm,aB aI (h.aAh:Int),aA al nl cl,aA av nv cv] 39);obtain⟨N,off,x,R,K⟩:=aAw iR (by decide) (hh.zr.below hb) (j:=1) (by simp);obtain rfl:=x;obtain⟨o,v,B,I⟩:=mO K;obtain⟨O,C,E,S,r⟩:=aAw bU (by decide) (hh.mr.below hb) (j:=i) (by simpa using hi);obtain rfl:=E;have c:=iZ r;rw[Nat.mul_one]at c;have g:([h.m0,h.m1]:List Nat)[i]'(by simpa using hi)=h.min i:=by
  unfold Hp.min;obtain rfl | rfl:i=0∨i=1:=by omega
  ·rfl
  ·rfl
 rw[g]at c;have M:=hh.e1;simp only[List.getElem_cons_zero,List.getElem_cons_succ]at o v B I;rw[M]at o v;have W:h.min i<=256:=by unfold Hp.min;have:=hk.m0;have:=hk.m1;split <;> omega
 have q:=hk.e1;have Q:=hk.o1.1.fe;have X:h.z1.f<=256:=by omega
 obtain⟨t,d⟩:=Oa flags hf;have y:Hid (∀u lo:Bool,h.held i u lo=(if u then h.min i/2 else h.min i)+(if i=0/\lo=false then(h.z1.e-h.z1.f)/32 else 0)):=λ_ _=>rfl
 clear hh K r g M;generalize h.min i=m at*;have P:(i:Int)<2:=by omega
 have p:((h.z1.e:Int)-h.z1.f)/32=(((h.z1.e-h.z1.f)/32:Nat):Int):=by omega
 have V:(0:Int)<=(h.z1.e:Int)-h.z1.f:=by omega
 have F:(h.z1.e-h.z1.f)/32<=8:=by omega
 have l:(((h.z1.e-h.z1.f)/32:Nat):Int)=((h.z1.e:Int)-h.z1.f)/32:=p.symm;clear p;obtain⟨D,A⟩:∃D,(h.z1.e-h.z1.f)/32=D:=⟨_,rfl⟩
 rw[A]at l F;have U:=gO A;clear A
 -- the four ways: urgent or not, the first zone without the flag or else
 obtain⟨n,G⟩:∃n,(if flags/8%2=1 then m/2 else m)=n:=⟨_,rfl⟩
 have T:n<=256:=by rw[<- G];split <;> omega
 have k:Calls prog 155 #[aC #[aA (aK ⟨N,off,aJ⟩) 2 cz,aA (aK ⟨O,C,aJ⟩) 2 cm,aB aI h.aAh,aA al nl cl,aA av nv cv],aB aI i,aB aI flags] w λev w'=>ev=aN (aB aI ((n+if i=0/\¬flags%2=1 then D else 0:Nat):Int))/\Below w.heap.size w w':=by
  have J:(if flags/8%2=1 then(m:Int)/2 else(m:Int))=(n:Int):=by rw[<- G];split <;> omega
  by_cases L:flags/8%2=1
  ·rw[if_pos L]at t J;by_cases a:i=0
   ·subst a;rw[Nat.add_zero]at c;by_cases b:flags%2=1
    ·rw[if_pos b]at d;rw[if_neg (by simp[b])];go_enter func155,ntmps155
     go_wp2
     go_ret
     exact⟨dO (by simp),hb⟩
    ·rw[if_neg b]at d;rw[if_pos ⟨rfl,b⟩];go_enter func155,ntmps155
     go_wp2_with fail
     go_quiet (fail)
     go_wp2
     go_ret
     exact⟨dO (by have H:=l;rw[q]at H;omega),below_drewN hb _⟩
   ·have z:((i:Int) == 0)=false:=by rw[beq_eq_false_iff_ne];omega
    rw[if_neg (λh=>a h.1)];go_enter func155,ntmps155
    go_wp2
    go_ret
    exact⟨dO (by simp),hb⟩
  ·rw[if_neg L]at t J;by_cases a:i=0
   ·subst a;rw[Nat.add_zero]at c;by_cases b:flags%2=1
    ·rw[if_pos b]at d;rw[if_neg (by simp[b])];go_enter func155,ntmps155
     go_wp2
     go_ret
     exact⟨dO (by simp),hb⟩
    ·rw[if_neg b]at d;rw[if_pos ⟨rfl,b⟩];go_enter func155,ntmps155
     go_wp2_with fail
     go_quiet (fail)
     go_wp2
     go_ret
     exact⟨dO (by have H:=l;rw[q]at H;omega),below_drewN hb _⟩
   ·have z:((i:Int) == 0)=false:=by rw[beq_eq_false_iff_ne];omega
    rw[if_neg (λh=>a h.1)];go_enter func155,ntmps155
    go_wp2
    go_ret
    exact⟨dO (by simp),hb⟩
 have s:=y.out (decide (flags/8%2=1)) (decide (flags%2=1));rw[s];have e:(if decide (flags/8%2=1)=true then m/2 else m)+(if i=0/\decide (flags%2=1)=false then(h.z1.e-h.z1.f)/32 else 0)=n+(if i=0/\¬flags%2=1 then D else 0):=by
  rw[U.out,<- G];congr 1
  ·simp only[decide_eq_true_eq]
  ·simp only[decide_eq_false_iff_not]
 rw[e];exact k
theorem Ob (b:Bk)(p:Nat)(w:World)(ha:b.a<=1000)(hp:p<=1000):
 Calls prog 123 #[aC #[aB aI b.a,aB aI b.o,aB aI b.t],aB aI p] w λe w'=>e=aN (aB aI ((b.a:Int)-p))/\Below w.heap.size w w':=by
 go_enter func123,ntmps123
 go_wp2
 go_ret
 exact⟨rfl,aAq _ _⟩
theorem Oc (a:Option Addr)(n cap:Nat)(l:List Bk)(p:Nat)(w:World)(hn:l.length=n)(hl:n<=1000)(hr:Row w a (flat aAx l))(hrise:uN l)(ha:∀b∈l,b.a<=1000)(hp:p<=1000):
 Calls prog 69 #[aA a n cap,aB aI p,.func (.func 123) #[] #[]] w λe w'=>e=aN (aG #[aB aI (lb l p:Int),.bool (hasB l p)])/\Below w.heap.size w w':=by
 subst hn;have F:=mD l p;have P:∀k w,(callFunc 123 k).run prog w= .ok (.enter 123 k) w:=enters_of func123 (by kernel_rfl) rfl;go_enter func69,ntmps69
 go_wp2
 go_loopw [9,10,11] (λB s _ wr=>∃i j:Nat,i<=lb l p/\lb l p<=j/\j<=l.length/\B=aB aI i/\s=aB aI j/\Below w.heap.size w wr) (λB s _ _=>(intOf s).toNat-(intOf B).toNat)
 case atStart=>exact⟨0,l.length,gU _,F,gT _,rfl,rfl,gX _ _⟩
 case round=>
  obtain⟨i,j,N,J,O,rfl,rfl,f⟩:=hrel;by_cases I:i<j
  ·have E:(i+j)/2<l.length:=by omega
   have m:=gO (JW hrise (a:=p) E);obtain⟨b,off,rfl,hb,x⟩:=aAw aAu (by decide) (hr.below f) E;obtain⟨q,v,r⟩:=bH x;have t:=ha _ (gL E);clear hr x;generalize l[(i+j)/2]=y at*;go_wp2_with fail
   refine(Ob y p _ t hp).mono ?_;rintro e H ⟨rfl,u⟩;have d:=gW f u;clear q v r;by_cases o:y.a<p
   ·have M:=m.out.2 o;have D:(y.a:Int)-p<0:=by omega
    go_wp2
    go_roundw
    case rel=>exact⟨(i+j)/2+1,j,by omega,J,O,by go_num,rfl,d⟩
    case measure=>simp[intOf];omega
   ·have M:¬(i+j)/2<lb l p:=λh=>o (m.out.1 h)
    have D:¬(y.a:Int)-p<0:=by omega
    go_wp2
    go_roundw
    case rel=>exact⟨i,(i+j)/2,N,by omega,by omega,rfl,by go_num,d⟩
    case measure=>simp[intOf];omega
  ·obtain rfl:i=lb l p:=by omega
   have L:(lb l p:Int)<=l.length:=by omega
   by_cases C:lb l p<l.length
   ·obtain⟨b,off,rfl,hb,x⟩:=aAw aAu (by decide) (hr.below f) C;obtain⟨q,v,r⟩:=bH x;have t:=ha _ (gL C);have g:=gO (xY hrise (a:=p) C);have A:(lb l p:Int)<l.length:=by omega
    clear hr x;generalize l[lb l p]=y at*;generalize c:lb l p=K at*;have z:=gO c;clear c;go_wp2_with fail
    refine(Ob y p _ t hp).mono ?_;rintro e H ⟨rfl,u⟩;have d:=gW f u;clear q v r;by_cases G:y.a=p
    ·have D:((y.a:Int)-p == 0)=true:=by rw[beq_iff_eq];omega
     go_wp2
     go_ret2
     refine⟨?_,d⟩;rw[g.out,z.out,gTg G];rfl
    ·have D:((y.a:Int)-p == 0)=false:=by rw[beq_eq_false_iff_ne];omega
     go_wp2
     go_ret2
     refine⟨?_,d⟩;rw[g.out,z.out,gV G];rfl
   ·have g:=gO (wK hrise (a:=p) (by omega));have A:¬(lb l p:Int)<l.length:=by omega
    clear hr;generalize c:lb l p=K at*;have z:=gO c;clear c;go_wp2
    go_ret2
    refine⟨?_,f⟩;rw[g.out,z.out];rfl
theorem KN (az am al av:Option Addr)(cz cm cl cv nl nv:Nat)(y0 y1:Zc)(lc:List Lc)(h:Hp)(p:Nat)(w:World)(hh:HAt w az am al av nl nv y0 y1 lc h)(hk:eY h)(Rk:nv<=1000)(hp:p<=1000):
 Calls prog 84 #[aC #[aA az 2 cz,aA am 2 cm,aB aI h.aAh,aA al nl cl,aA av nv cv],aB aI p] w λev w'=>ev=aN (aG #[aB aI (lb h.live p:Nat),.bool (hasB h.live p)])/\Below w.heap.size w w':=by
 have hb:=aAq w (aO #[aA az 2 cz,aA am 2 cm,aB aI (h.aAh:Int),aA al nl cl,aA av nv cv] 39);have e:=(hh.below hb).vr;have f:=hh.nv;have d:∀b∈h.live,b.a<=1000:=λb hb=>by have:=(hk.lv b hb).1.2.2.1;omega
 clear hh;go_enter func84,ntmps84
 go_wp2_with fail
 refine(Oc _ _ _ h.live p _ f Rk e hk.vs d hp).mono ?_;rintro ev w' ⟨rfl,c⟩;go_wp2
 go_ret2
 exact⟨rfl,gW hb c⟩
theorem aAT (h:lJ l){a k:Nat}(hk:k<l.length):k<jU l a↔l[k].key<a:=by
 constructor
 ·intro b;exact BJ _ (List.mem_take_iff_getElem.2 ⟨k,by omega,rfl⟩)
 ·intro b;rcases Nat.lt_or_ge k (jU l a)with h1 | h1
  ·exact h1
  ·have:=xW h (k:=a) l[k] (List.mem_drop_iff_getElem.2 ⟨k-jU l a,by omega,by congr 1;omega⟩);omega
theorem Oe (az am al av:Option Addr)(cz cm cl cv nl nv:Nat)(y0 y1:Zc)(lc:List Lc)(h:Hp)(l:Ls)(x:Option Addr)(kx dx:Nat)(w:World)(hh:HAt w az am al av nl nv y0 y1 lc h)(hrs:lJ h.ls)(aFM:∀y∈h.ls,y.z<2/\y.t<3)(hl:l.z<2/\l.t<3)(hnl:nl<=1000):
 Calls prog 90 #[aC #[aA az 2 cz,aA am 2 cm,aB aI h.aAh,aA al nl cl,aA av nv cv],aC #[aB aI l.c,aB aI l.z,aB aI l.t,aA x kx dx]] w λev w'=>ev=aN (aG #[aB aI (jU h.ls l.key:Nat),.bool (sG h.ls l.key)])/\Below w.heap.size w w':=by
 obtain⟨K2,K3,F2,F3,hsz,A⟩:=boxes2 w #[aA az 2 cz,aA am 2 cm,aB aI (h.aAh:Int),aA al nl cl,aA av nv cv] 39 #[aB aI (l.c:Int),aB aI (l.z:Int),aB aI (l.t:Int),aA x kx dx] 160;have HR:=gO (hh.below A).lr;have N:lc.length=nl:=hh.nl;have D:=hh.ll;have aI1:h.ls.length=nl:=by rw[<- D,gTe,N]
 have hle:=XC h.ls l.key;have Og:Hid (lJ h.ls):=hrs;have HLR:=gO aFM;have Z:=gO D;clear hh hrs aFM D;go_enter func90,ntmps90
 go_wp2
 generalize (w.alloc _).alloc _=w0 at*;go_loopw [6] (λX wr=>∃i:Nat,i<=jU h.ls l.key/\X=aB aI (i:Int)/\Hid (Below w0.heap.size w0 wr)) (λX _=>nl-(intOf X).toNat)
 case atStart=>exact⟨0,gU _,rfl,gX _ _⟩
 case round=>
  obtain⟨i,hi,rfl,hb⟩:=hrel;have DC:=aAp K2 (by omega) hb.out;have g:=aAp K3 (by omega) hb.out;have Yb:=hb.out.size;have m:=DC 3;have F:=g 0;have G:=g 1;have I:=g 2;have J:=g 3;simp only[gB,gC,gD]at m F G I J;clear DC g;have k:w.heap.size<wr.heap.size:=by omega
  have d:w.heap.size+1<wr.heap.size:=by omega
  by_cases hlt:i<nl
  ·have M:i<lc.length:=by omega
   have s:i<h.ls.length:=by omega
   obtain⟨S,off,U,f,hc⟩:=aAw aP (by decide) (HR.out.below hb.out) M;obtain rfl:=U;obtain⟨v,K,H,R⟩:=oH hc;have L:lc[i].l=h.ls[i]:=by
    have O:=congrArg (·[i]?) Z.out;simp[M,s]at O;exact O
   have u:=gO (aAT Og.out (a:=l.key) s);have W:=HLR.out _ (gL s);have Q:Hid (i=jU h.ls l.key->sG h.ls l.key=decide (h.ls[i].key=l.key)):=λe=>by
    unfold sG;rw[<- e,gJ s]
   rw[L]at v K H;clear hc L;generalize h.ls[i]=y at*;generalize lc[i]=r at*;have KO:decide ((i:Int)<nl)=true:=gTg (by omega);have aLN:(i:Int)<nl:=by omega
   have q:y.z<2/\y.t<3:=W;go_wp2_with fail
   refine aU (by kernel_rfl) (by kernel_rfl) ?_
   repeat (first | go_big_quiet_step ((go_at_call 118;exact Calls.bV (Am y l _ _ _ _ _ _ _ q hl))) | quiet_step ((go_at_call 118;exact Calls.bV (Am y l _ _ _ _ _ _ _ q hl))))
   refine wpQuiet_nil ?_;rintro _ ⟨wx,rfl⟩;have b:=aT wr wx;have P:=gO (gW hb.out b);by_cases o:y.key<l.key
   ·rw[gTg o];have h3:=u.out.2 o;generalize ext wr wx=T at*;go_wp2
    go_roundw
    case rel=>exact⟨i+1,h3,by go_num,P⟩
    case measure=>simp[intOf];omega
   ·rw[gV o];have n:i=jU h.ls l.key:=by
     rcases Nat.lt_or_ge i (jU h.ls l.key)with O | O
     ·exact absurd (u.out.1 O) o
     ·omega
    have j:=gO (Q.out n);have E:=gO n;clear n;have Y:=(b.cell (p:=⟨w.heap.size,3,aJ⟩) k).trans m;have m30:=(b.cell (p:=⟨w.heap.size+1,0,aJ⟩) d).trans F;have m31:=(b.cell (p:=⟨w.heap.size+1,1,aJ⟩) d).trans G;have m32:=(b.cell (p:=⟨w.heap.size+1,2,aJ⟩) d).trans I;have m33:=(b.cell (p:=⟨w.heap.size+1,3,aJ⟩) d).trans J;have n0:=(b.cell (p:=⟨S,off+i*4,aJ⟩) f).trans v;have n1:=(b.cell (p:=⟨S,off+i*4+1,aJ⟩) f).trans K;have n2:=(b.cell (p:=⟨S,off+i*4+2,aJ⟩) f).trans H;have n3:=(b.cell (p:=⟨S,off+i*4+3,aJ⟩) f).trans R;have V:=gI k b.size;have aNy:=gI d b.size;have aI3:=gI f b.size;clear m F G I J v K H R b k d f;generalize ext wr wx=T at*;go_wp2_with fail
    refine aU (by kernel_rfl) (by kernel_rfl) ?_
    repeat (first | go_big_quiet_step ((go_at_call 118;exact Calls.bV (Am l y _ _ _ _ _ _ _ hl q))) | quiet_step ((go_at_call 118;exact Calls.bV (Am l y _ _ _ _ _ _ _ hl q))))
    refine wpQuiet_nil ?_;rintro _ ⟨wy,rfl⟩;have B:=gO (gW P.out (aT T wy));generalize ext T wy=w6 at*;go_wp2
    go_ret2
    refine⟨?_,gW A B.out⟩;rw[j.out,<- E.out];have e:(!decide (l.key<y.key))=decide (y.key=l.key):=by
     by_cases h9:l.key<y.key
     ·rw[gTg h9,gV (by omega)];rfl
     ·rw[gV h9,gTg (by omega)];rfl
    rw[e];rfl
  ·have n:i=nl:=by omega
   have C:i=jU h.ls l.key:=by omega
   have j:Hid (sG h.ls l.key=false):=by
    unfold Hid sG;rw[<- C,List.getElem?_eq_none (by omega)]
   have KO:decide ((i:Int)<nl)=false:=gV (by omega);have E:=gO C;clear n C;go_wp2_with fail
   go_quiet (fail)
   have B:=gO (below_drewN hb.out nq);have Y:=((below_drewN (gX wr.heap.size wr) nq).cell (p:=⟨w.heap.size,3,aJ⟩) k).trans m;have V:w.heap.size<(wr.drewN nq).heap.size:=gI k (below_drewN (gX wr.heap.size wr) nq).size;clear m;generalize wr.drewN nq=T at*;go_wp2_with fail
   go_quiet (fail)
   have hb7:=gO (below_drewN B.out nq);go_wp2
   go_ret2
   refine⟨?_,gW A hb7.out⟩;rw[j.out,<- E.out];rfl
theorem TQ (az am al av:Option Addr)(cz cm cl cv nl nv:Nat)(y0 y1:Zc)(lc:List Lc)(h:Hp)(l:Ls)(x:Option Addr)(kx dx:Nat)(w:World)(hh:HAt w az am al av nl nv y0 y1 lc h)(hk:eY h)(hl:l.z<2/\l.t<3)(hnl:nl<=1000):
 Calls prog 90 #[aC #[aA az 2 cz,aA am 2 cm,aB aI h.aAh,aA al nl cl,aA av nv cv],aC #[aB aI l.c,aB aI l.z,aB aI l.t,aA x kx dx]] w λev w'=>ev=aN (aG #[aB aI (jU h.ls l.key:Nat),.bool (sG h.ls l.key)])/\Below w.heap.size w w':=
 Oe az am al av cz cm cl cv nl nv y0 y1 lc h l x kx dx w hh hk.lk (λy a=>⟨(hk.lr y a).2.1,(hk.lr y a).2.2.1⟩) hl hnl
theorem Oi (h:i<l.length):lsB (l.take (i+1))=lsB (l.take i)++lI l[i].p:=by
 have c:∀a b:List Ls,lsB (a++b)=lsB a++lsB b:=λa b=>by
  induction a with
  | nil=>rfl
  | cons x a ih=>simp only[List.cons_append,lsB,ih,List.append_assoc]
 rw[List.take_succ_eq_append_getElem h,c];simp[lsB]
theorem VA (l:List Ls)(i:Nat):lsB l=lsB (l.take i)++lsB (l.drop i):=by
 have c:∀a b:List Ls,lsB (a++b)=lsB a++lsB b:=λa b=>by
  induction a with
  | nil=>rfl
  | cons x a ih=>simp only[List.cons_append,lsB,ih,List.append_assoc]
 rw[<- c,List.take_append_drop]
theorem TR (done:List Bk)(l:List Nat)(j:Nat)(hj:j<l.length):done++lI (l.take (j+1))=(done++lI (l.take j))++[⟨l[j],0,0⟩]:=by
 rw[List.take_succ_eq_append_getElem hj,List.append_assoc];unfold lI;rw[List.map_append];rfl
theorem aAX {done:List Bk}{l:List Nat}(h:∀p,cnt (done++(lI l++r)) p<=1)(hj:j<l.length)(p:Nat):cnt ((done++lI (l.take j))++[⟨l[j],0,0⟩]) p<=1:=by
 rw[<- TR done l j hj];have a:lI l=lI (l.take (j+1))++lI (l.drop (j+1)):=by unfold lI;rw[<- List.map_append,List.take_append_drop]
 have b:=h p;rw[a,bT,bT,bT]at b;rw[bT];omega
theorem Yr (az am al av:Option Addr)(cz cm cl cv nl nv G:Nat)(y0 y1:Zc)(lc:List Lc)(h:Hp)(done:List Bk)(w0 w:World)(hh:HAt w0 az am al av nl nv y0 y1 lc h)(hw0:w0.heap.size<=G)(hb0:Below w0.heap.size w0 w)(hk:eY h)(hnl:nl<=1000)(hm:Cj w G (Hz done) false)(hone:∀p,cnt (done++lsB h.ls) p<=1):
 Calls prog 67 #[aC #[aA az 2 cz,aA am 2 cm,aB aI h.aAh,aA al nl cl,aA av nv cv],aH (aK ⟨G,0,aJ⟩)] w λev w'=>ev=aN (.bool true)/\Cj w' G (Hz (done++lsB h.ls)) false/\Safe (λk=>k≠G) w w':=by
 obtain⟨K2,F2,hsz,D⟩:=boxes1 w #[aA az 2 cz,aA am 2 cm,aB aI (h.aAh:Int),aA al nl cl,aA av nv cv] 39;have Xf:=hm.hi;have HM:=gO (hm.below D);have HH:=gO hh;have Q:=gO (hb0.trans (D.mono hb0.size));have hlen:lc.length=nl:=hh.nl;have aI1:h.ls.length=nl:=by rw[<- hh.ll,gTe,hlen]
 have HLL:=gO hh.ll;have Og:Hid (lJ h.ls):=hk.lk;have HLR:=gO hk.lr;have aI5:=gO hone;have Yt:=gO (Safe.jD (X:=λk=>k≠G) D);clear hh hm hb0 hone D;go_enter func67,ntmps67
 go_wp2
 generalize w.alloc _=w1 at*;go_loopw [12] (λT wr=>∃i:Nat,i<=nl/\T=aB aI (i:Int)/\Hid (Cj wr G (Hz (done++lsB (h.ls.take i))) false)/\Hid (Safe (λk=>k≠G) w1 wr)) (λT _=>nl-(intOf T).toNat)
 case atStart=>exact⟨0,gU _,rfl,by simpa[Hid,lsB]using HM.out,Safe.refl _ _⟩
 case round=>
  obtain⟨i,hi,rfl,HK,HS⟩:=hrel;have hne:w.heap.size≠G:=by omega
  have DC:=HS.out.box K2 hsz hne;have Yb:=HS.out.size;have O:w.heap.size<wr.heap.size:=by omega
  have hB:=gO (HS.out.after Q.out (B:=w0.heap.size) (λk hk=>by omega) (by have:=Q.out.size;omega));have M:=DC 0;have k21:=DC 1;have N:=DC 2;have Y:=DC 3;have k24:=DC 4;simp only[gB,gC,gD]at M k21 N Y k24;clear DC;by_cases hlt:i<nl
  ·have hlt2:(i:Int)<nl:=by omega
   have q:i<lc.length:=by omega
   have F:i<h.ls.length:=by omega
   have W:∀j (d:j<lc.length) (h2:j<h.ls.length),lc[j].l=h.ls[j]:=λj d h2=>by
    have h3:=congrArg (·[j]?) HLL.out;simp[d,h2]at h3;exact h3
   have C:=gO (HH.out.below hB.out);obtain⟨o,off,ha1,m,hc⟩:=aAw aP (by decide) C.out.lr q;obtain rfl:=ha1;obtain⟨hc0,hc1,hc2,hc3⟩:=oH hc;have hpr:=C.out.pr _ (gL q);have b:=HLR.out _ (gL F);have J:Hid (0<i->∃k,k+1=i/\∃y:Lc,(∀j v,(bP y)[j]? =aK v->wr.cell? ⟨o,off+k*4+j,aJ⟩=aK v)/\y.l.key<h.ls[i].key/\y.l.z<2/\y.l.t<3):=λh0=>by
    obtain⟨bb',off',ha2,aDc,hc'⟩:=aAw aP (by decide) C.out.lr (j:=i-1) (by omega);obtain⟨rfl,rfl⟩:o=bb'/\off=off':=by simpa using ha2
    have h5:=W (i-1) (by omega) (by omega);have h6:=HLR.out _ (gL (show i-1<h.ls.length by omega));refine⟨i-1,by omega,lc[i-1],hc',?_,?_⟩
    ·rw[h5];exact gN.1 Og.out (i-1) i (by omega) (by omega) (by omega)
    ·rw[h5];exact⟨h6.2.1,h6.2.2.1⟩
   have aFO:=W i q F;rw[aFO]at hc0 hc1 hc2 hpr;have U:=gO (Oi F);have hpz:Hid (∀p∈h.ls[i].p,p<256/\h.jH p=h.ls[i].z):=λp hp=>by
    have h7:=b.2.2.2.2.2 p hp;have h8:=b.2.1;refine⟨h7.1,?_⟩;unfold Hp.jH;by_cases h9:p<h.z0.e
    ·rw[if_pos h9];exact(h7.2.1 h9).symm
    ·rw[if_neg h9];have:=λe=>h9 (h7.2.2 e);omega
   have HC1:Hid (∀p,cnt ((done++lsB (h.ls.take i))++(lI h.ls[i].p++lsB (h.ls.drop (i+1)))) p<=1):=λp=>by
    have d:=aI5.out p;have h2:lsB h.ls=lsB (h.ls.take i)++(lI h.ls[i].p++lsB (h.ls.drop (i+1))):=by
     rw[<- List.append_assoc,<- Oi F];exact VA h.ls (i+1)
    rw[h2,<- List.append_assoc]at d;exact d
   have bJ:=b.1;have hzz:=b.2.1;have htt:=b.2.2.1;have hp1:=b.2.2.2.1;have hp8:=b.2.2.2.2.1;obtain⟨hpn,aFP⟩:=hpr;have aFQ:=HH.out.pr _ (gL q);have K:Hid (Row w0 lc[i].a (flat iF lc[i].l.p)):=aFQ.2;clear aFQ;rw[aFO]at K;generalize h.ls[i]=y at*;clear hc W b;generalize lc[i]=r at*;obtain⟨I,H,S,_,_⟩:=aAw bU (by decide) K.out (j:=0) (show 0<y.p.length by omega);generalize r.a=ra at*;obtain rfl:=S;rw[hpn]at hp1 hp8;have g1:decide ((y.c:Int)<0)=false:=gV (by omega);have g3:decide ((y.z:Int)<0)=false:=gV (by omega);have g5:decide ((y.t:Int)<0)=false:=gV (by omega);have g4:decide ((1:Int)<y.z)=false:=gV (by omega);have g6:decide ((3:Int)<=y.t)=false:=gV (by omega);have g8:decide ((8:Int)<r.n)=false:=gV (by omega);have gg2:decide (h.aAh<=y.c)=false:=gV (by omega);have gg4:decide (1<y.z)=false:=gV (by omega);have gg6:decide (3<=y.t)=false:=gV (by omega);have gg7:((r.n:Int) == 0)=false:=by rw[beq_eq_false_iff_ne];omega
   have gg8:decide (8<r.n)=false:=gV (by omega);go_wp2_with fail
   obtain⟨E2,EF2,KW,g⟩:=boxes1 wr #[aB aI (y.c:Int),aB aI (y.z:Int),aB aI (y.t:Int),aA (aK ⟨I,H,aJ⟩) r.n r.c] 160;have e0:=E2 0;have e1:=E2 1;have e2:=E2 2;have e3:=E2 3;simp only[gB,gC,gD]at e0 e1 e2 e3;have q0:=(g.cell (p:=⟨w.heap.size,0,aJ⟩) O).trans M;have q2:=(g.cell (p:=⟨w.heap.size,2,aJ⟩) O).trans N;have q3:=(g.cell (p:=⟨w.heap.size,3,aJ⟩) O).trans Y;have aAV:w.heap.size<(wr.alloc (aO #[aB aI (y.c:Int),aB aI (y.z:Int),aB aI (y.t:Int),aA (aK ⟨I,H,aJ⟩) r.n r.c] 160)).heap.size:=by omega
   have hpx:Hid (0<i->∃k:Nat,(i:Int)-1=k/\(k:Int)<nl/\k<nl/\o<(wr.alloc (aO #[aB aI (y.c:Int),aB aI (y.z:Int),aB aI (y.t:Int),aA (aK ⟨I,H,aJ⟩) r.n r.c] 160)).heap.size/\∃x:Lc,x.l.key<y.key/\(x.l.z<2/\x.l.t<3)/\(wr.alloc (aO #[aB aI (y.c:Int),aB aI (y.z:Int),aB aI (y.t:Int),aA (aK ⟨I,H,aJ⟩) r.n r.c] 160)).cell? ⟨o,off+k*4,aJ⟩=aK (aB aI x.l.c)/\(wr.alloc (aO #[aB aI (y.c:Int),aB aI (y.z:Int),aB aI (y.t:Int),aA (aK ⟨I,H,aJ⟩) r.n r.c] 160)).cell? ⟨o,off+k*4+1,aJ⟩=aK (aB aI x.l.z)/\(wr.alloc (aO #[aB aI (y.c:Int),aB aI (y.z:Int),aB aI (y.t:Int),aA (aK ⟨I,H,aJ⟩) r.n r.c] 160)).cell? ⟨o,off+k*4+2,aJ⟩=aK (aB aI x.l.t)/\(wr.alloc (aO #[aB aI (y.c:Int),aB aI (y.z:Int),aB aI (y.t:Int),aA (aK ⟨I,H,aJ⟩) r.n r.c] 160)).cell? ⟨o,off+k*4+3,aJ⟩=aK (aA x.a x.n x.c)):=λh0=>by
    obtain⟨k,hki,x,hxc,u,Z⟩:=J.out h0;obtain⟨x0,x1,x2,x3⟩:=oH hxc;exact⟨k,by omega,by omega,by omega,gI m g.size,x,u,Z,(g.cell (p:=⟨o,off+k*4,aJ⟩) m).trans x0,(g.cell (p:=⟨o,off+k*4+1,aJ⟩) m).trans x1,(g.cell (p:=⟨o,off+k*4+2,aJ⟩) m).trans x2,(g.cell (p:=⟨o,off+k*4+3,aJ⟩) m).trans x3⟩
   have HE2:=gO E2;have HK5:=gO (HK.out.below g);have HS5:=gO (HS.out.then g);have HB5:=gO (Du g hB.out (by have:=Q.out.size;have:=hB.out.size;omega));clear E2 EF2 J HK HS hB C hc0 hc1 hc2 hc3 g M k21 N Y k24 aFP;generalize wr.alloc _=w5 at*;by_cases h0:0<i;all_goals first
    |(obtain⟨k,hik,hkn,hkn2,aI3,x,u,Z,x0,x1,x2,x3⟩:=hpx.out h0
      have g9:decide ((0:Int)<i)=true:=gTg (by omega);have gg9:decide (0<i)=true:=gTg h0;have gl:decide (x.l.key<y.key)=true:=gTg u;have hyz:y.z<2/\y.t<3:=⟨hzz,htt⟩
      refine aU (by kernel_rfl) (by kernel_rfl) ?_
      repeat (go_big_quiet_step ((go_at_call 118;exact Calls.bV (Am x.l y _ _ _ _ _ _ _ Z hyz)))))
    |(have g9:decide ((0:Int)<i)=false:=gV (by omega)
      have gg9:decide (0<i)=false:=gV (by omega);refine aU (by kernel_rfl) (by kernel_rfl) ?_
      repeat (go_big_quiet_step (fail)))
   all_goals
    refine wpQuiet_nil ?_;rintro _ ⟨wx,rfl⟩
    try clear gl u
    have VB:=aT w5 wx;have K6:=aAp HE2.out KW VB;have HK6:=gO (HK5.out.below VB);have HS6:=gO (HS5.out.then VB);have A:=gO (Du VB HB5.out (by have:=HB5.out.size;omega));have VD:wr.heap.size<(ext w5 wx).heap.size:=gI KW VB.size;have hGr:G<wr.heap.size:=by omega
    have f3:=K6 3;simp only[gB,gC,gD]at f3;generalize ext w5 wx=w6 at*;clear VB;go_wp2_with fail
    obtain⟨we,rfl⟩:∃we,we=wr:=⟨_,rfl⟩
    go_loopw [77] (λR wq=>∃j:Nat,j<=r.n/\R=aB aI (j:Int)/\Hid (Cj wq G (Hz ((done++lsB (h.ls.take i))++lI (y.p.take j))) false)/\Hid (Safe (λk=>k≠G) w6 wq)) (λR _=>r.n-(intOf R).toNat)
    case atStart=>exact⟨0,gU _,rfl,by simpa[Hid,lI]using HK6.out,Safe.refl _ _⟩
    case round=>
     obtain⟨j,hj,rfl,HQ,Oj⟩:=hrel;have aDq:=Oj.out.size;have aI7:we.heap.size≠G:=by omega
     by_cases hjl:j<r.n
     ·have aDr:(j:Int)<r.n:=by omega
      have E:j<y.p.length:=by omega
      have qU:=gO (Oj.out.after A.out (B:=w0.heap.size) (λk hk=>by omega) (by have:=A.out.size;omega));obtain⟨pb',Fj,S,hpb,hpc⟩:=aAw bU (by decide) (K.out.below (qU.out)) (j:=j) E;obtain⟨rfl,rfl⟩:I=pb'/\H=Fj:=by simpa using S
      have Fp:=iZ hpc;have hpp:=hpz.out _ (gL E);have hcn:=gO (aAX HC1.out E);have hnx:=gO (TR (done++lsB (h.ls.take i)) y.p j E);obtain⟨P,hP⟩:∃P,y.p[j]=P:=⟨_,rfl⟩
      rw[hP]at Fp hpp;have HP:=gO hP;clear hpc hP;rw[Nat.mul_one]at Fp;go_wp2_with fail
      refine(Fh G ⟨P,0,0⟩ _ _ HQ.out (λp=>by have d:=hcn.out p;rw[HP.out]at d;exact d) (by show P+1<=256;omega) 1 rfl).mono ?_;rintro ev L ⟨rfl,s,hs7⟩;have HM7:Hid (Cj L G (Hz ((done++lsB (h.ls.take i))++lI (y.p.take (j+1)))) false):=by
       unfold Hid;rw[hnx.out,HP.out];exact s
      have f:=gO (Oj.out.trans hs7);have hB7:=f.out.after A.out (B:=w0.heap.size) (λk hk=>by omega) (by have:=A.out.size;omega);have HAT7:=gO (HH.out.below hB7);have b7:=(s.k 256).trans (Az _ _);have hG7:=s.hi;have hw7:w.heap.size<L.heap.size:=by have:=f.out.size;omega
      have aNz:we.heap.size<L.heap.size:=by have:=f.out.size;omega
      have H7:=f.out.box K6 VD aI7;have L7:=(HS6.out.trans f.out).box K2 hsz hne;have l70:=L7 0;have l71:=L7 1;have l72:=L7 2;have l73:=L7 3;have l74:=L7 4;have r71:=H7 1;simp only[gB,gC,gD]at l70 l71 l72 l73 l74 r71;clear H7 L7 s hs7 hB7 Fp;have gz:(((h.jH P:Nat):Int) != (y.z:Int))=false:=by simp[hpp.2]
      go_wp2_with fail
      refine aU (by kernel_rfl) (by kernel_rfl) ?_
      repeat (go_big_quiet_step ((go_at_call 87;exact Calls.bV (KH _ _ _ _ _ _ _ _ _ _ _ _ _ h P _ (HAT7.out.below (aT L _))))))
      refine wpQuiet_nil ?_;rintro _ ⟨wy,rfl⟩;have HS8:=gO (f.out.then (aT L wy));have HM8:=gO (HM7.out.below (aT L wy));generalize ext L wy=w8 at*;go_wp2
      go_roundw
      case rel=>exact⟨j+1,by omega,by go_num,HM8,HS8⟩
      case measure=>simp[intOf];omega
     ·obtain rfl:j=r.n:=by omega
      have hend:Hid (Cj wr G (Hz (done++lsB (h.ls.take (i+1)))) false):=by
       unfold Hid;rw[U.out,<- List.append_assoc];have d:=HQ.out;rw[gTf (show y.p.length<=r.n by omega)]at d;exact d
      have V:=gO (HS6.out.trans Oj.out);go_wp2_with fail
      go_roundw
      case rel=>exact⟨i+1,by omega,by go_num,hend,V⟩
      case measure=>simp[intOf];omega
  ·obtain rfl:i=nl:=by omega
   have hend:Hid (Cj wr G (Hz (done++lsB h.ls)) false):=by
    have d:=HK.out;rw[gTf (by omega)]at d;exact d
   go_wp2
   go_ret
   exact⟨rfl,hend.out,Yt.out.trans HS.out⟩
theorem aDs (n:Nat)(w:World)(hn:n<=256):
 Calls prog 65 #[aB aI (n:Int)] w λev w'=>ev=aN (.bool false)/\Below w.heap.size w w':=by
 have b:decide ((n:Int)<0)=false:=gV (by omega);have a:decide ((256:Int)<n)=false:=gV (by omega);go_enter func65,ntmps65
 go_wp2
 go_ret
 exact⟨rfl,gX _ _⟩
theorem fin256 {f e a o:Nat}(h:cZ f e a o)(he:e<=256):a+2^o<=256:=by
 obtain⟨c,d,g,b⟩:=h;obtain rfl | rfl | rfl | rfl | rfl:o=0∨o=1∨o=2∨o=3∨o=4:=by omega
 all_goals simp at b ⊢;omega
theorem TS {a l:List Bk}(h:∀p,cnt (a++(l++r)) p<=1)(hj:j<l.length)(p:Nat):cnt ((a++l.take j)++[l[j]]) p<=1:=by
 have b:l=l.take (j+1)++l.drop (j+1):=(List.take_append_drop _ _).symm;have c:=h p;rw[b,bT,bT,bT,List.take_succ_eq_append_getElem hj,bT]at c;rw[bT,bT];omega
theorem Jf (a l:List Bk)(hj:j<l.length):a++l.take (j+1)=(a++l.take j)++[l[j]]:=by
 rw[List.take_succ_eq_append_getElem hj,List.append_assoc]
def Ol (h:Hp)(i:Nat):List Bk:=if i=0 then[]else if i=1 then h.z0.l else h.z0.l++h.z1.l
theorem Yu (h:Hp)(hi:i<2):Ol h (i+1)=Ol h i++(h.zone i).l:=by
 unfold Ol Hp.zone;obtain rfl | rfl:i=0∨i=1:=by omega
 ·simp
 ·simp
theorem VE (h:Hp)(hi:i<2):∃r,h.all=Ol h i++((h.zone i).l++r):=by
 unfold Ol Hp.zone Hp.all;obtain rfl | rfl:i=0∨i=1:=by omega
 ·exact⟨_,by simp;rfl⟩
 ·exact⟨_,by simp;rfl⟩
theorem VF (hone:∀p,cnt h.all p<=1)(p:Nat):cnt (Ol h 2++lsB h.ls) p<=1:=by
 have a:=hone p;unfold Hp.all at a;unfold Ol;simp only[bT,show ¬(2:Nat)=0 by omega,show ¬(2:Nat)=1 by omega,if_false]at a ⊢;omega
theorem Yv (hone:∀p,cnt h.all p<=1)(p:Nat):cnt ((Ol h 2++lsB h.ls)++(h.live++[])) p<=1:=by
 have a:=hone p;unfold Hp.all at a;unfold Ol;simp only[bT,show ¬(2:Nat)=0 by omega,show ¬(2:Nat)=1 by omega,if_false,cnt]at a ⊢;omega
theorem zeroMarks0:Tryz.zeroCells146=(((List.range 256).map λ_=>Value.bool false)++[Value.bool false]).toArray:=by kernel_rfl
theorem VG:Tryz.zeroCells146=uZ (Hz []) false:=zeroMarks0
theorem yA (az am al av:Option Addr)(cz cm cl cv nl nv:Nat)(y0 y1:Zc)(lc:List Lc)(h:Hp)(w:World)(hh:HAt w az am al av nl nv y0 y1 lc h)(hk:eY h)(hnl:nl<=1000)(Rk:nv<=1000):
 Calls prog 30 #[aC #[aA az 2 cz,aA am 2 cm,aB aI h.aAh,aA al nl cl,aA av nv cv]] w λev w'=>ev=aN (aB aI 0)/\Below w.heap.size w w':=by
 obtain⟨K1,F1,hsz,hbw⟩:=boxes1 w #[aA az 2 cz,aA am 2 cm,aB aI (h.aAh:Int),aA al nl cl,aA av nv cv] 39;have HH:=gO hh;have HK:=gO hk;have La:=hh.nv;have hcp:=hk.cp;have e0:=hh.e0;have e1:=hh.e1;have f0:=gO hk.f0;have f1:=gO hk.e0;have f2:=gO hk.e1;have m0:=hk.m0;have m1:=hk.m1;have hb1:=gO hbw;clear hk;obtain⟨v,C,ha1,_,_⟩:=aAw iR (by decide) hh.zr (j:=0) (by simp);obtain rfl:=ha1;have E:Hid (∀W,Below w.heap.size w W->v<W.heap.size/\(W.cell? ⟨v,C,aJ⟩=aK (aB aI h.z0.f)/\W.cell? ⟨v,C+1,aJ⟩=aK (aB aI h.z0.e)/\W.cell? ⟨v,C+2,aJ⟩=aK (aA y0.a1 y0.n1 y0.c1)/\W.cell? ⟨v,C+3,aJ⟩=aK (aA y0.a2 y0.n2 y0.c2))/\(W.cell? ⟨v,C+4,aJ⟩=aK (aB aI h.z1.f)/\W.cell? ⟨v,C+4+1,aJ⟩=aK (aB aI h.z1.e)/\W.cell? ⟨v,C+4+2,aJ⟩=aK (aA y1.a1 y1.n1 y1.c1)/\W.cell? ⟨v,C+4+3,aJ⟩=aK (aA y1.a2 y1.n2 y1.c2))):=λW A=>by
  obtain⟨b1,o1,D,h2,h3⟩:=aAw iR (by decide) (hh.below A).zr (j:=0) (by simp);obtain⟨b2,o2,h4,h5,h6⟩:=aAw iR (by decide) (hh.below A).zr (j:=1) (by simp);obtain⟨rfl,rfl⟩:v=b1/\C=o1:=by simpa using D
  obtain⟨rfl,rfl⟩:v=b2/\C=o2:=by simpa using h4
  have h7:=mO h3;have h8:=mO h6;simp only[List.getElem_cons_zero,List.getElem_cons_succ,Nat.zero_mul,Nat.one_mul,Nat.add_zero,e0,e1]at h7 h8;exact⟨h2,h7,h8⟩
 have KB:Hid (∀W,Below (w.heap.size+1) (w.alloc (aO #[aA (aK ⟨v,C,aJ⟩) 2 cz,aA am 2 cm,aB aI (h.aAh:Int),aA al nl cl,aA av nv cv] 39)) W->w.heap.size<W.heap.size/\W.cell? ⟨w.heap.size,0,aJ⟩=aK (aA (aK ⟨v,C,aJ⟩) 2 cz)/\W.cell? ⟨w.heap.size,1,aJ⟩=aK (aA am 2 cm)/\W.cell? ⟨w.heap.size,2,aJ⟩=aK (aB aI (h.aAh:Int))/\W.cell? ⟨w.heap.size,3,aJ⟩=aK (aA al nl cl)/\W.cell? ⟨w.heap.size,4,aJ⟩=aK (aA av nv cv)):=λW A=>by
  have hs:(w.alloc (aO #[aA (aK ⟨v,C,aJ⟩) 2 cz,aA am 2 cm,aB aI (h.aAh:Int),aA al nl cl,aA av nv cv] 39)).heap.size=w.heap.size+1:=by simp
  have D:=aAp K1 hsz (by rw[hs];exact A);have h2:=D 0;have h3:=D 1;have h4:=D 2;have h5:=D 3;have h6:=D 4;simp only[gB,gC,gD]at h2 h3 h4 h5 h6;exact⟨by have:=A.size;omega,h2,h3,h4,h5,h6⟩
 have hs1:(w.alloc (aO #[aA (aK ⟨v,C,aJ⟩) 2 cz,aA am 2 cm,aB aI (h.aAh:Int),aA al nl cl,aA av nv cv] 39)).heap.size=w.heap.size+1:=by simp
 have c1:decide ((h.aAh:Int)<1)=false:=gV (by omega);have c2:decide ((4:Int)<h.aAh)=false:=gV (by omega);clear hh K1 F1 hbw;obtain⟨c,g,q,u,m,d⟩:=KB.out _ (gX _ _);obtain⟨NV,⟨O,R,z02,X⟩,H,z11,z12,J⟩:=E.out _ hb1.out;go_enter func30,ntmps30
 go_wp2_with fail
 generalize w.alloc _=w1 at*;clear c g q u m d NV O R z02 X H z11 z12 J;have hB1:=HH.out.below hb1.out;have ht:=hB1.t0;refine(qC _ _ _ _ _ _ h.z0 _ ht HK.out.o0).mono ?_;rintro ev w2 ⟨rfl,hc2⟩;have hb2:=gO (gW hb1.out hc2);have hk2:=gO (Du hc2 (gX (w.heap.size+1) w1) (by omega));clear hc2 hB1 ht;obtain⟨c,g,q,u,m,d⟩:=KB.out _ hk2.out;obtain⟨NV,⟨O,R,z02,X⟩,H,z11,z12,J⟩:=E.out _ hb2.out;go_wp2_with fail
 clear c g q u m d NV O R z02 X H z11 z12 J;have hB2:=HH.out.below hb2.out;have ht:=hB2.t1;refine(qC _ _ _ _ _ _ h.z1 _ ht HK.out.o1).mono ?_;rintro ev w3 ⟨rfl,hc3⟩;have hb3:=gO (gW hb2.out hc3);have hk3:=gO (Du hc3 hk2.out (by have:=hk2.out.size;omega));clear hc3 hB2 ht;obtain⟨c,g,q,u,m,d⟩:=KB.out _ hk3.out;obtain⟨NV,⟨O,R,z02,X⟩,H,z11,z12,J⟩:=E.out _ hb3.out;have eg:∀args w,(callFunc 65 args).run prog w= .ok (.enter 65 args) w:=enters_of func65 (by kernel_rfl) rfl;have hodd:([h.m0,h.m1].any λn=>decide (256<n))=false:=by
  simp only[List.any_cons,List.any_nil,gV (show ¬256<h.m0 by omega),gV (show ¬256<h.m1 by omega),Bool.or_false]
 have HCF:Hid (∀W,Below w3.heap.size w3 W->Calls prog 64 #[aA am 2 cm,.func (.func 65) #[] #[]] W λe w'=>e=aN (.bool false)/\Below W.heap.size W w'):=λW A=>by
  have hx:=rH am 2 cm [h.m0,h.m1] 65 #[] (λn=>decide (256<n)) W rfl (by omega) (HH.out.below (gW hb3.out A)).mr eg (λW' _ x hx=>(aDs x W' (by simp at hx;omega)).mono λ_ _ ⟨D,h2⟩=>⟨D.trans (aX (gV (by simp at hx;omega)).symm),h2⟩);rw[hodd]at hx;exact hx
 have d1:((h.z0.f:Int) != 0)=false:=by simp[f0.out]
 have d2:((h.z0.e:Int) != (h.z1.f:Int))=false:=by simp[f1.out]
 have d3:((h.z1.e:Int) != 256)=false:=by simp[f2.out]
 go_wp2_with fail
 refine aU (by kernel_rfl) (by kernel_rfl) ?_
 repeat (go_big_quiet_step ((go_at_call 64;exact Calls.bV (HCF.out _ (aT w3 _)))))
 refine wpQuiet_nil ?_;rintro _ ⟨wx,rfl⟩;have hb4:=gO (gW hb3.out (aT w3 wx));have hk4:=gO (Du (aT w3 wx) hk3.out (by have:=hk3.out.size;omega));clear c g q u m d NV O R z02 X H z11 z12 J HCF hodd eg;generalize ext w3 wx=w4 at*;obtain⟨c,g,q,u,m,d⟩:=KB.out _ hk4.out;have HZI:Hid (∀i,i<2->∃(f e:Int) (a1:Option Addr) (n1 c1:Nat) (a2:Option Addr) (n2 c2:Nat),(h.zone i).ok/\(h.zone i).l.length=n1/\∀W,Below w.heap.size w W->Row W a1 (flat aAx (h.zone i).l)/\v<W.heap.size/\W.cell? ⟨v,C+i*4,aJ⟩=aK (aB aI f)/\W.cell? ⟨v,C+i*4+1,aJ⟩=aK (aB aI e)/\W.cell? ⟨v,C+i*4+2,aJ⟩=aK (aA a1 n1 c1)/\W.cell? ⟨v,C+i*4+3,aJ⟩=aK (aA a2 n2 c2)):=λi hi=>by
  obtain rfl | rfl:i=0∨i=1:=by omega
  ·exact⟨h.z0.f,h.z0.e,y0.a1,y0.n1,y0.c1,y0.a2,y0.n2,y0.c2,HK.out.o0,HH.out.t0.l1,λW A=>⟨(HH.out.below A).t0.r1,(E.out W A).1,by simpa using(E.out W A).2.1.1,by simpa using(E.out W A).2.1.2.1,by simpa using(E.out W A).2.1.2.2.1,by simpa using(E.out W A).2.1.2.2.2⟩⟩
  ·exact⟨h.z1.f,h.z1.e,y1.a1,y1.n1,y1.c1,y1.a2,y1.n2,y1.c2,HK.out.o1,HH.out.t1.l1,λW A=>⟨(HH.out.below A).t1.r1,(E.out W A).1,by simpa using(E.out W A).2.2.1,by simpa using(E.out W A).2.2.2.1,by simpa using(E.out W A).2.2.2.2.1,by simpa using(E.out W A).2.2.2.2.2⟩⟩
 clear E;go_wp2_with fail
 have hm0:Cj (w4.alloc (.cells Tryz.zeroCells146 146)) w4.heap.size (Hz (Ol h 0)) false:=by
  have D:=aQ w4 Tryz.zeroCells146 146;rw[VG]at*;exact⟨D,eG _ _ _,by simp⟩
 have hb5:=gO (gW hb4.out (aAq w4 (.cells Tryz.zeroCells146 146)));have hk5:=gO (Du (aAq w4 (.cells Tryz.zeroCells146 146)) hk4.out (by have:=hk4.out.size;omega));have HM0:=gO hm0;have hG5:=hm0.hi;have Xf:w.heap.size+1<=w4.heap.size:=by have:=hk4.out.size;omega
 clear hm0 hb4 hk4 c g q u m d;generalize w4.alloc _=w5 at*;generalize w4.heap.size=G at*;go_loopw [83] (λs83 wr=>∃i:Nat,i<=2/\s83=aB aI (i:Int)/\Hid (Cj wr G (Hz (Ol h i)) false)/\Hid (Safe (λk=>k≠G) w5 wr)) (λs83 _=>2-(intOf s83).toNat)
 case atStart=>exact⟨0,gU _,rfl,HM0,Safe.refl _ _⟩
 case round=>
  obtain⟨i,hi,rfl,S,kG⟩:=hrel;have F:=gO (kG.out.after hb5.out (B:=w.heap.size) (λk hk=>by omega) (by have:=hb5.out.size;omega));have I:=gO (kG.out.after hk5.out (B:=w.heap.size+1) (λk hk=>by omega) (by have:=hk5.out.size;omega));have hGr:=S.out.hi;obtain⟨c,g,q,u,m,d⟩:=KB.out _ I.out;by_cases hlt:i<2
  ·have hlt2:(i:Int)<2:=by omega
   have hcn:∃r,∀p,cnt (Ol h i++((h.zone i).l++r)) p<=1:=by
    obtain⟨r,hr⟩:=VE h hlt;exact⟨r,λp=>by rw[<- hr];exact HK.out.one p⟩
   obtain⟨rest,hcn⟩:=hcn;obtain⟨zf,ze,a1,n1,c1,a2,n2,c2,Hl,hln,hzr⟩:=HZI.out i hlt;obtain⟨_,NV,z0,z1,z2,z3⟩:=hzr wr F.out;have hwr:=hzr;go_wp2_with fail
   have M:=aAq wr (aO #[aB aI zf,aB aI ze,aA a1 n1 c1,aA a2 n2 c2] 79);have HM6:=gO (S.out.below M);have HS6:=gO (kG.out.then M);have U:=gO (gW F.out M);have hk6:=gO (Du M I.out (by have:=I.out.size;omega));have hG6:G<(wr.alloc (aO #[aB aI zf,aB aI ze,aA a1 n1 c1,aA a2 n2 c2] 79)).heap.size:=HM6.out.hi;have HCN:=gO hcn;have TT:=gO (Yu h hlt);have aI8:Hid (∀x∈(h.zone i).l,x.o<=4/\x.fin<=256):=λx hx=>⟨(Hl.2.fit x hx).1.1,fin256 (Hl.2.fit x hx).1 Hl.1.e2⟩
   have aFL:n1<=256:=by
    have:=uM.length_le Hl.2 (λb hb=>(Hl.2.fit b hb).1.2.2.1);have:=Hl.1.e2;omega
   clear M c g q u m d NV z0 z1 z2 z3 Hl S kG F I hcn;have HZR:=gO hzr;clear hzr hwr;generalize (h.zone i).l=L at*;generalize wr.alloc _=w6 at*;generalize wr.heap.size=Bz at*;go_loopw [90] (λs90 wq=>∃j:Nat,j<=n1/\s90=aB aI (j:Int)/\Hid (Cj wq G (Hz (Ol h i++L.take j)) false)/\Hid (Safe (λk=>k≠G) w6 wq)) (λs90 _=>n1-(intOf s90).toNat)
   case atStart=>exact⟨0,gU _,rfl,by simpa[Hid]using HM6.out,Safe.refl _ _⟩
   case round=>
    obtain⟨j,hj,rfl,TU,Oj⟩:=hrel;have hbq:=gO (Oj.out.after U.out (B:=w.heap.size) (λk hk=>by omega) (by have:=U.out.size;omega));have hGq:=TU.out.hi;by_cases hjl:j<n1
    ·have aDr:(j:Int)<n1:=by omega
     have z:j<L.length:=by omega
     obtain⟨pb,l7,hpa,hpb,Y⟩:=aAw aAu (by decide) (HZR.out _ hbq.out).1 z;obtain⟨hp0,Z,V⟩:=bH Y;have hft:=aI8.out _ (gL z);have K:=gO (TS HCN.out z);have hnj:=gO (Jf (Ol h i) L z);clear Y;generalize L[j]=x at hp0 Z V hft K hnj;obtain rfl:=hpa;obtain⟨hxo,hxf⟩:=hft;have hsh:=wI hxo;go_wp2_with fail
     obtain⟨E2,EF2,KW,P⟩:=boxes1 wr #[aB aI (x.a:Int),aB aI (x.o:Int),aB aI (x.t:Int)] 82;have e0:=E2 0;have e1:=E2 1;have e2:=E2 2;simp only[gB,gC,gD]at e0 e1 e2;have T:=gO (TU.out.below P);have HS7:=gO (Oj.out.then P);clear E2 EF2 P hp0 Z V;generalize wr.alloc _=w7 at*
     go_still_tail 6,(by kernel_rfl)
     change wpList _ _ _ _ _ w7.drew;have hm8:=T.out.below ((gX w7.heap.size w7).drew);have hs8:=HS7.out.then ((gX w7.heap.size w7).drew);generalize w7.drew=w8 at*;go_wp2_with fail
     refine(Fh G x _ _ hm8 K.out hxf _ hsh).mono ?_;rintro ev w9 ⟨rfl,hm9,hs9⟩;rw[<- hnj.out]at hm9;have HM9:=gO hm9;have HS9:=gO (hs8.trans hs9);clear hm8 hs8 hm9 hs9 T HS7;go_wp2
     go_roundw
     case rel=>exact⟨j+1,by omega,by go_num,HM9,HS9⟩
     case measure=>simp[intOf];omega
    ·obtain rfl:j=n1:=by omega
     have hend:Hid (Cj wr G (Hz (Ol h (i+1))) false):=by
      unfold Hid;rw[TT.out];have D:=TU.out;rw[gTf (show L.length<=j by omega)]at D;exact D
     have hse:=gO (HS6.out.trans Oj.out);go_wp2_with fail
     go_roundw
     case rel=>exact⟨i+1,by omega,by go_num,hend,hse⟩
     case measure=>simp[intOf];omega
  ·obtain rfl:i=2:=by omega
   have hrow:=F;have Xg:=gO (λp=>VF HK.out.one p);have HCV:=gO (λp=>Yv HK.out.one p);go_wp2_with fail
   refine(Yr (aK ⟨v,C,aJ⟩) am al av cz cm cl cv nl nv G y0 y1 lc h (Ol h 2) w wr HH.out (by omega) F.out HK.out hnl S.out Xg.out).mono ?_;rintro ev w6 ⟨rfl,hm6,hs6⟩;have HM6:=gO hm6;have HS6:=gO (kG.out.trans hs6);have U:=gO (HS6.out.after hb5.out (B:=w.heap.size) (λk hk=>by omega) (by have:=hb5.out.size;omega));have hk6:=gO (HS6.out.after hk5.out (B:=w.heap.size+1) (λk hk=>by omega) (by have:=hk5.out.size;omega));have hG6:=hm6.hi;clear hm6 hs6 S kG F I c g q u m d;obtain⟨c,g,q,u,m,d⟩:=KB.out _ hk6.out;generalize hZS:Ol h 2++lsB h.ls=ZS at*;clear hZS;go_wp2_with fail
   clear c g q u m d;go_loopw [110] (λN wq=>∃j:Nat,j<=nv/\N=aB aI (j:Int)/\Hid (Cj wq G (Hz (ZS++h.live.take j)) false)/\Hid (Safe (λk=>k≠G) w6 wq)) (λN _=>nv-(intOf N).toNat)
   case atStart=>exact⟨0,gU _,rfl,by simpa[Hid]using HM6.out,Safe.refl _ _⟩
   case round=>
    obtain⟨j,hj,rfl,TU,Oj⟩:=hrel;have hbq:=gO (Oj.out.after U.out (B:=w.heap.size) (λk hk=>by omega) (by have:=U.out.size;omega));have hkq:=gO (Oj.out.after hk6.out (B:=w.heap.size+1) (λk hk=>by omega) (by have:=hk6.out.size;omega));have hGq:=TU.out.hi;obtain⟨c,g,q,u,m,d⟩:=KB.out _ hkq.out;by_cases hjl:j<nv
    ·have aDr:(j:Int)<nv:=by omega
     have z:j<h.live.length:=by rw[La];exact hjl
     have hvr:=(HH.out.below hbq.out).vr;obtain⟨pb,l7,hpa,hpb,Y⟩:=aAw aAu (by decide) hvr z;obtain⟨hp0,Z,V⟩:=bH Y;have hft:=HK.out.lv _ (gL z);have K:=gO (TS HCV.out z);have hnj:=gO (Jf ZS h.live z);have hpx:Hid (0<j->∃k:Nat,(j:Int)-1=k/\(k:Int)<nv/\k<nv/\∃y:Bk,y.a<(h.live[j]).a/\wr.cell? ⟨pb,l7+k*3,aJ⟩=aK (aB aI y.a)):=λh0=>by
      obtain⟨pb',Fj,aFU,_,aJa⟩:=aAw aAu (by decide) hvr (j:=j-1) (by omega);obtain⟨rfl,rfl⟩:pb=pb'/\l7=Fj:=by rw[hpa]at aFU;simpa using aFU
      exact⟨j-1,by omega,by omega,by omega,h.live[j-1],gN.1 HK.out.vs (j-1) j (by omega) z (by omega),(bH aJa).1⟩
     clear Y hvr;generalize h.live[j]=x at hp0 Z V hft K hnj hpx;obtain rfl:=hpa;obtain⟨hxf,hxt⟩:=hft;have hxe:=fin256 hxf (gT _);obtain⟨D,h2,h3,h4⟩:=hxf;have hsh:=wI D;have hpw:=yX D;have hmod:(x.a:Int)%((2^x.o:Nat):Int)=0:=by rw[<- Int.natCast_emod,h4];rfl
     have d1:decide ((x.o:Int)<0)=false:=gV (by omega);have d2:decide ((4:Int)<x.o)=false:=gV (by omega);have d3:decide ((x.a:Int)<0)=false:=gV (by omega);have d4:decide ((x.t:Int)<0)=false:=gV (by omega);have d5:decide ((3:Int)<=x.t)=false:=gV (by omega);have hfe:x.fin<=256:=hxe;have hmb:=fun(W:World) (hm:Cj W G (Hz (ZS++h.live.take j)) false)=>Fh G x _ W hm K.out hfe _ hsh
     have HMB:=gO hmb;clear hmb hfe hxe h2 h3 h4;generalize 2^x.o=s at*;go_wp2_with fail
     obtain⟨E2,EF2,KW,P⟩:=boxes1 wr #[aB aI (x.a:Int),aB aI (x.o:Int),aB aI (x.t:Int)] 82;have e0:=E2 0;have e1:=E2 1;have e2:=E2 2;simp only[gB,gC,gD]at e0 e1 e2;have q4:=(P.cell (p:=⟨w.heap.size,4,aJ⟩) c).trans d;have aAV:=gI c P.size;have aJb:=gI hpb P.size;have aJc:Hid (0<j->∃k:Nat,(j:Int)-1=k/\(k:Int)<nv/\k<nv/\∃y:Bk,y.a<x.a/\(wr.alloc (aO #[aB aI (x.a:Int),aB aI (x.o:Int),aB aI (x.t:Int)] 82)).cell? ⟨pb,l7+k*3,aJ⟩=aK (aB aI y.a)):=λh0=>by
      obtain⟨k,g1,g2,g3,y,g4,g5⟩:=hpx.out h0;exact⟨k,g1,g2,g3,y,g4,(P.cell (p:=⟨pb,l7+k*3,aJ⟩) hpb).trans g5⟩
     have T:=gO (TU.out.below P);have HS7:=gO (Oj.out.then P);have HE2:=gO E2;clear E2 EF2 P hp0 Z V c g q u m d hpx hpb TU Oj hbq hkq;generalize wr.alloc _=w7 at*;by_cases h0:0<j;all_goals first
      |(obtain⟨k,hik,hkn,hkn2,y,hyx,y0'⟩:=aJc.out h0
        have g9:decide ((0:Int)<j)=true:=gTg (by omega);have gg9:decide (0<j)=true:=gTg h0;have g10:decide ((x.a:Int)<=y.a)=false:=gV (by omega);have g11:decide (x.a<=y.a)=false:=gV (by omega);refine aU (by kernel_rfl) (by kernel_rfl) ?_
        repeat (go_big_quiet_step (fail)))
      |(have g9:decide ((0:Int)<j)=false:=gV (by omega)
        have gg9:decide (0<j)=false:=gV (by omega);refine aU (by kernel_rfl) (by kernel_rfl) ?_
        repeat (go_big_quiet_step (fail)))
     all_goals
      refine wpQuiet_nil ?_;rintro _ ⟨wx,rfl⟩
      try clear g11 g10 hyx
      have Q:=aT w7 wx;have E8:=aAp HE2.out KW Q;have esz8:wr.heap.size<(ext w7 wx).heap.size:=gI KW Q.size;have HM8:=gO (T.out.below Q);have HS8:=gO (HS7.out.then Q);generalize ext w7 wx=w8 at*;clear Q e0 e1 e2 q4 aAV aJb HE2 T HS7 KW
      try clear y0'
      have e0:=E8 0;have e1:=E8 1;have e2:=E8 2;simp only[gB,gC,gD]at e0 e1 e2;clear E8;go_wp2_with fail
      go_still_tail 6,(by kernel_rfl)
      change wpList _ _ _ _ _ w8.drew;have HM9:=gO (HM8.out.below ((gX w8.heap.size w8).drew));have HS9:=gO (HS8.out.then ((gX w8.heap.size w8).drew));generalize w8.drew=w9 at*;clear HM8 HS8;go_wp2_with fail
      refine(HMB.out _ HM9.out).mono ?_;rintro ev w10 ⟨rfl,aDt,hs10⟩;rw[<- hnj.out]at aDt;have HM10:=gO aDt;have HS10:=gO (HS9.out.trans hs10);clear aDt hs10 HM9 HS9;go_wp2
      go_roundw
      case rel=>exact⟨j+1,by omega,by go_num,HM10,HS10⟩
      case measure=>simp[intOf];omega
    ·obtain rfl:j=nv:=by omega
     have b7:=(TU.out.k 256).trans (Az _ _);have hfin:=gO hbq.out;go_wp2
     go_ret
     exact⟨rfl,hfin.out⟩
end Go.Proofs.YtjaogfhcnmjkiaaGreatDoor

/- joined. -/
import Derived.Test.YtcmpmobhongkiaaGreatDoorRK0
import Derived.Test.YtcmpmobhongkiaaGreatDoorRK13
import Derived.Test.YtcmpmobhongkiaaGreatDoorRK14
import Derived.Test.YtcmpmobhongkiaaGreatDoorRK18
import Derived.Test.YtcmpmobhongkiaaGreatDoorRK23
import Derived.Test.YtcmpmobhongkiaaGreatDoorRK24
import Derived.Test.YtcmpmobhongkiaaGreatDoorRK25
import Derived.Test.YtcmpmobhongkiaaGreatDoorRK7
set_option linter.unusedVariables false
set_option linter.unusedSimpArgs false
namespace Go.Proofs.YtcmpmobhongkiaaGreatDoor
section
open Go.RowKit
theorem vV {α:Type}{enc:α->List Value}{k:Nat}(hk:∀x,(enc x).length=k){i:Nat}(hi:i<k){u:Value}{x:α}:∀(l:List α) (j:Nat) (hj:j<l.length),enc x=(enc l[j]).set i u->(flat enc l).set (j*k+i) u=flat enc (l.set j x)
 | a::l,0,_,hx=>by
  rw[dM,gG,dM,Nat.zero_mul,Nat.zero_add,List.set_append_left _ _ (by rw[hk];exact hi)];rw[show enc x=(enc a).set i u from hx]
 | a::l,j+1,hj,hx=>by
  rw[dM,gH,dM,List.set_append_right _ _ (by rw[hk,Nat.add_mul];omega),hk,show(j+1)*k+i-k=j*k+i by rw[Nat.add_mul];omega,vV hk hi l j (by simpa using hj) hx]
theorem zS {α:Type}{enc:α->List Value}{x:α}:∀(l:List α) (j:Nat) (hj:j<l.length),enc x=enc l[j]->flat enc (l.set j x)=flat enc l
 | a::l,0,_,hx=>by rw[gG,dM,dM,show enc x=enc a from hx]
 | a::l,j+1,hj,hx=>by rw[gH,dM,dM,zS l j (by simpa using hj) hx]
section
variable {W W' W1 W2 W9:World}{G:Nat}{X Y:Nat->Prop}{s s':Sy}{v v':Sc}
def Sc.dN (v:Sc)(i:Nat)(y:Cc):Sc:={v with ys:=v.ys.set i y}
theorem vW (v:Sc)(s:Sy)(i:Nat)(y:Cc)(c:Ca):(v.dN i y).vals (s.fH i c)=v.vals s:=by
 unfold Sc.vals Sc.dN;simp only[List.length_set];rfl
theorem SR.upC (hs:SR W G X s v){i:Nat}(hi:i<v.ys.length){y':Cc}(sf:Safe (fun k=>¬v.blk s G k) W W')
 (own:dJ W' 0 (tY v s::l9 (v.dN i y')::qZ y'::mX y'::rC y'::(v.ys.eraseIdx i).flatMap fP))
 (hb:∀r∈fP y',∀g,r.v.ownBlock=some g->(∃q∈v.rows s,q.v.ownBlock=some g)∨v.fr s G X g):SR W' G X (s.fH i y'.c) (v.dN i y'):=by
 have hi':i<(v.dN i y').ys.length:=by
  unfold Sc.dN;simpa using hi
 have hp:=zQ (v.dN i y') (s.fH i y'.c) hi';have e1:(v.dN i y').ys[i]=y':=by simp[Sc.dN]
 have e2:(v.dN i y').ys.eraseIdx i=v.ys.eraseIdx i:=by
  unfold Sc.dN;exact List.eraseIdx_set_eq
 have e3:(v.dN i y').front (s.fH i y'.c) (v.dN i y').ys[i] ((v.dN i y').ys.eraseIdx i)=tY v s::l9 (v.dN i y')::qZ y'::mX y'::rC y'::(v.ys.eraseIdx i).flatMap fP:=by
  rw[e1,e2];rfl
 rw[e3]at hp;refine hs.step sf rfl rfl (own.perm hp.symm) (fun r hr g hg=> ?_) ?_
 ·have hr2:=hp.mem_iff.1 hr;have hold:∀q,q∈(v.front s v.ys[i] (v.ys.eraseIdx i))->q∈v.rows s:=fun q hq=>(zQ v s hi).mem_iff.2 hq
  simp only[List.mem_cons]at hr2;rcases hr2 with rfl | rfl | rfl | rfl | rfl | hr2
  ·exact .inl ⟨_,nX v s,hg⟩
  ·refine .inl ⟨_,iP v s,?_⟩;rw[<- hg];unfold l9 Sc.dN;simp only[List.length_set]
  ·exact hb _ (by simp[fP]) g hg
  ·exact hb _ (by simp[fP]) g hg
  ·exact hb _ (by simp[fP]) g hg
  ·exact .inl ⟨r,hold r (by unfold Sc.front;simp only[List.mem_cons];exact .inr (.inr (.inr (.inr (.inr hr2))))),hg⟩
 ·unfold Sc.dN Sy.fH;simp only;rw[List.map_set,hs.cy]
theorem SR.OA (hs:SR W G X s v){i:Nat}(hi:i<v.ys.length):dJ W 0 (tY v s::l9 v::qZ v.ys[i]::mX v.ys[i]::rC v.ys[i]::(v.ys.eraseIdx i).flatMap fP):=hs.own.perm (zQ v s hi)
theorem SR.XD (hs:SR W G X s v){i:Nat}(hi:i<v.ys.length):∃g,v.a2=some ⟨g,0,none⟩/\g<W.heap.size/\g≠G/\¬X g/\(∀j,j<6->W.cell? ⟨g,i*6+j,none⟩=(dX v.ys[i])[j]? /\W.frozen? ⟨g,i*6+j,none⟩=false):=by
 have hc:(l9 v).on W 0:=hs.own.each _ (iP v s);have hlen:=flat_length dU v.ys;obtain⟨g,u,h1,_,h2,_,_⟩:=fA hc (i*6) (by rw[show(l9 v).xs=flat dX v.ys from rfl,hlen];omega);have h3:(l9 v).v.ownBlock=some g:=by unfold l9;rw[h1];rfl
 have h4:=hs.og _ (iP v s) g h3;refine⟨g,h1,h2,h4.1,h4.2,fun j hj=> ?_⟩;have hk:i*6+j<(l9 v).xs.length:=by rw[show(l9 v).xs=flat dX v.ys from rfl,hlen];omega
 obtain⟨g',h5,_,_,h6,h7⟩:=oI hc (i*6+j) hk;rw[h1]at h5;obtain rfl:g=g':=by simpa using h5
 refine⟨?_,h7⟩;rw[h6,<- flat_get dU v.ys i hi j hj];exact(gJ hk).symm
theorem SR.BI (hs:SR W G X s v){r:Rs}(hr:r∈v.rows s){g:Nat}(hg:r.v.ownBlock=some g)(i:Nat)(u:Value):Safe (fun k=>¬v.blk s G k) W (W.setCell ⟨g,i,none⟩ u):=
 (Safe.refl _ W).set (fun h=>h (.inr ⟨r,hr,hg⟩)) i u
theorem SS.Vt (hs:SS W G X s v){g:Nat}(hg:g≠G)(i:Nat)(u:Value):(∀o,(W.setCell ⟨g,i,none⟩ u).cell? ⟨G,o,none⟩=(v.vals s)[o]?)/\∀o,(W.setCell ⟨g,i,none⟩ u).frozen? ⟨G,o,none⟩=false:=
 ⟨aA hs.k (fun e=>hg e.symm) i u,aG hs.fz _ _⟩
theorem SS.aCT (hs:SS W G X s v){i:Nat}(hi:i<v.ys.length){g:Nat}(hg:v.ys[i].a3=some ⟨g,0,none⟩)(cpu:Nat)(p:Int):
 SS (W.setCell ⟨g,cpu,none⟩ (vI p)) G X (s.fH i {v.ys[i].c with ac:=v.ys[i].c.ac.set cpu p}) (v.dN i {v.ys[i]with c:={v.ys[i].c with ac:=v.ys[i].c.ac.set cpu p}})/\Safe X W (W.setCell ⟨g,cpu,none⟩ (vI p)):=by
 have hrow:rC v.ys[i]∈v.rows s:=kH (gL hi) (by simp[fP]);have hb:(rC v.ys[i]).v.ownBlock=some g:=by unfold rC;rw[hg];rfl
 have h4:=hs.r.og _ hrow g hb;have k:=(hs.r.OA hi).cell (i:=4) (by simp) (g:=g) (c:=v.ys[i].c3) (by show(rC v.ys[i]).v=_;unfold rC;rw[hg];rfl) cpu (vI p) rfl;have e1:({rC v.ys[i]with xs:=(rC v.ys[i]).xs.set cpu (vI p)}:Rs)=rC {v.ys[i]with c:={v.ys[i].c with ac:=v.ys[i].c.ac.set cpu p}}:=by
  unfold rC;simp only[List.map_set]
 have e2:l9 (v.dN i {v.ys[i]with c:={v.ys[i].c with ac:=v.ys[i].c.ac.set cpu p}})=l9 v:=by
  have e:flat dX (v.ys.set i {v.ys[i]with c:={v.ys[i].c with ac:=v.ys[i].c.ac.set cpu p}})=flat dX v.ys:=zS v.ys i hi rfl;unfold l9 Sc.dN;simp only[List.length_set];rw[e]
 have hr:=hs.r.upC hi (y':={v.ys[i]with c:={v.ys[i].c with ac:=v.ys[i].c.ac.set cpu p}}) (hs.r.BI hrow hb cpu (vI p)) (by
  rw[e2,<- e1];exact k) (fun r hr' g' hg'=> .inl (by
  simp only[fP,List.mem_cons,List.not_mem_nil,or_false]at hr';rcases hr' with rfl | rfl | rfl
  ·exact⟨qZ v.ys[i],kH (gL hi) (by simp[fP]),hg'⟩
  ·exact⟨mX v.ys[i],kH (gL hi) (by simp[fP]),hg'⟩
  ·exact⟨rC v.ys[i],hrow,hg'⟩))
 have hk:=hs.Vt h4.1 cpu (vI p);rw[<- vW v s i]at hk;exact⟨⟨hr,hk.1,hk.2⟩,(Safe.refl X W).set h4.2 cpu (vI p)⟩
theorem SS.Qs (hs:SS W G X s v){i:Nat}(hi:i<v.ys.length){g:Nat}(hg:v.ys[i].a2=some ⟨g,0,none⟩){k:Nat}(hk:k<v.ys[i].c.sl.length){x':Sl}{j:Nat}(hj:j<3){u:Value}(hu:aX x'=(aX v.ys[i].c.sl[k]).set j u)(h1:u.oneCell'=true):
 SS (W.setCell ⟨g,k*3+j,none⟩ u) G X (s.fH i {v.ys[i].c with sl:=v.ys[i].c.sl.set k x'}) (v.dN i {v.ys[i]with c:={v.ys[i].c with sl:=v.ys[i].c.sl.set k x'}})/\Safe X W (W.setCell ⟨g,k*3+j,none⟩ u):=by
 have hrow:mX v.ys[i]∈v.rows s:=kH (gL hi) (by simp[fP]);have hb:(mX v.ys[i]).v.ownBlock=some g:=by unfold mX;rw[hg];rfl
 have h4:=hs.r.og _ hrow g hb;have h5:=(hs.r.OA hi).cell (i:=3) (by simp) (g:=g) (c:=v.ys[i].c2) (by show(mX v.ys[i]).v=_;unfold mX;rw[hg];rfl) (k*3+j) u h1;have e1:({mX v.ys[i]with xs:=(mX v.ys[i]).xs.set (k*3+j) u}:Rs)=mX {v.ys[i]with c:={v.ys[i].c with sl:=v.ys[i].c.sl.set k x'}}:=by
  unfold mX;simp only;rw[vV aK hj v.ys[i].c.sl k hk hu]
 have e2:l9 (v.dN i {v.ys[i]with c:={v.ys[i].c with sl:=v.ys[i].c.sl.set k x'}})=l9 v:=by
  have e:flat dX (v.ys.set i {v.ys[i]with c:={v.ys[i].c with sl:=v.ys[i].c.sl.set k x'}})=flat dX v.ys:=zS v.ys i hi rfl;unfold l9 Sc.dN;simp only[List.length_set];rw[e]
 have hr:=hs.r.upC hi (y':={v.ys[i]with c:={v.ys[i].c with sl:=v.ys[i].c.sl.set k x'}}) (hs.r.BI hrow hb (k*3+j) u) (by
  rw[e2,<- e1];exact h5) (fun r hr' g' hg'=> .inl (by
  simp only[fP,List.mem_cons,List.not_mem_nil,or_false]at hr';rcases hr' with rfl | rfl | rfl
  ·exact⟨qZ v.ys[i],kH (gL hi) (by simp[fP]),hg'⟩
  ·exact⟨mX v.ys[i],hrow,hg'⟩
  ·exact⟨rC v.ys[i],kH (gL hi) (by simp[fP]),hg'⟩))
 have hk:=hs.Vt h4.1 (k*3+j) u;rw[<- vW v s i]at hk;exact⟨⟨hr,hk.1,hk.2⟩,(Safe.refl X W).set h4.2 (k*3+j) u⟩
theorem SS.aCU (hs:SS W G X s v){i:Nat}(hi:i<v.ys.length){l':List Sl}{a':Option Addr}{n' c':Nat}(hown:W2.ownsRow 0 137 3 (.slice a' n' c') n' (flat aX l'))(hg:W.grownBy W2 (mX v.ys[i]).v.ownBlock)
 (hl:∀k,(Value.slice a' n' c').ownBlock=some k->(mX v.ys[i]).v.ownBlock=some k∨W.heap.size<=k) {gc:Nat} (hgc:v.a2=some ⟨gc,0,none⟩):
 SS (W2.setCell ⟨gc,i*6+4,none⟩ (.slice a' n' c')) G X (s.fH i {v.ys[i].c with sl:=l'}) (v.dN i {v.ys[i]with a2:=a',n2:=n',c2:=c',c:={v.ys[i].c with sl:=l'}})/\Safe X W (W2.setCell ⟨gc,i*6+4,none⟩ (.slice a' n' c')):=by
 have hrow:mX v.ys[i]∈v.rows s:=kH (gL hi) (by simp[fP]);have hcb:(l9 v).v.ownBlock=some gc:=by unfold l9;rw[hgc];rfl
 have h4:=hs.r.og _ (iP v s) gc hcb;have o1:=(hs.r.OA hi).grown (i:=3) (by simp) hg (r':=mX {v.ys[i]with a2:=a',n2:=n',c2:=c',c:={v.ys[i].c with sl:=l'}}) hown hl;have o2:=o1.cell (i:=1) (by simp) (g:=gc) (c:=v.c2) (by show(l9 v).v=_;unfold l9;rw[hgc];rfl) (i*6+4) (.slice a' n' c') rfl;have e1:({l9 v with xs:=(l9 v).xs.set (i*6+4) (.slice a' n' c')}:Rs)=l9 (v.dN i {v.ys[i]with a2:=a',n2:=n',c2:=c',c:={v.ys[i].c with sl:=l'}}):=by
  unfold l9 Sc.dN;simp only[List.length_set];rw[vV dU (by decide) v.ys i hi (x:={v.ys[i]with a2:=a',n2:=n',c2:=c',c:={v.ys[i].c with sl:=l'}}) rfl]
 have sf:Safe (fun k=>¬v.blk s G k) W W2:=Safe.nI hg fun k hk e=>hk (.inr ⟨_,hrow,e.symm⟩)
 have hr:=hs.r.upC hi (y':={v.ys[i]with a2:=a',n2:=n',c2:=c',c:={v.ys[i].c with sl:=l'}}) (sf.set (fun h=>h (.inr ⟨_,iP v s,hcb⟩)) (i*6+4) (.slice a' n' c')) (by
  rw[<- e1];exact o2) (fun r hr' g' hg'=>by
  simp only[fP,List.mem_cons,List.not_mem_nil,or_false]at hr';rcases hr' with rfl | rfl | rfl
  ·exact .inl ⟨qZ v.ys[i],kH (gL hi) (by simp[fP]),hg'⟩
  ·rcases hl g' hg' with h | h
   ·exact .inl ⟨mX v.ys[i],hrow,h⟩
   ·exact .inr (hs.r.fresh h)
  ·exact .inl ⟨rC v.ys[i],kH (gL hi) (by simp[fP]),hg'⟩)
 have hG:some G≠(mX v.ys[i]).v.ownBlock:=fun e=>(hs.r.og _ hrow G e.symm).1 rfl
 have hk1:=aA (bT hs.k hs.r.hr.gs hg hG) (c:=gc) (fun e=>h4.1 e.symm) (i*6+4) (.slice a' n' c');have hk2:=aG (bU hs.fz hs.r.hr.gs hg hG) ⟨gc,i*6+4,none⟩ (.slice a' n' c');rw[<- vW v s i]at hk1;exact⟨⟨hr,hk1,hk2⟩,(Safe.nI hg fun k hk e=>(hs.r.og _ hrow k e.symm).2 hk).set h4.2 (i*6+4) _⟩
theorem SS.aCV (hs:SS W G X s v){i:Nat}(hi:i<v.ys.length){l':List (List UInt8)}{a':Option Addr}{n' c':Nat}(hown:W2.ownsRow 0 9 1 (.slice a' n' c') n' (flat encS l'))(hg:W.grownBy W2 (qZ v.ys[i]).v.ownBlock)
 (hl:∀k,(Value.slice a' n' c').ownBlock=some k->(qZ v.ys[i]).v.ownBlock=some k∨W.heap.size<=k) {gc:Nat} (hgc:v.a2=some ⟨gc,0,none⟩):
 SS (W2.setCell ⟨gc,i*6,none⟩ (.slice a' n' c')) G X (s.fH i {v.ys[i].c with ns:=l'}) (v.dN i {v.ys[i]with a1:=a',n1:=n',c1:=c',c:={v.ys[i].c with ns:=l'}})/\Safe X W (W2.setCell ⟨gc,i*6,none⟩ (.slice a' n' c')):=by
 have hrow:qZ v.ys[i]∈v.rows s:=kH (gL hi) (by simp[fP]);have hcb:(l9 v).v.ownBlock=some gc:=by unfold l9;rw[hgc];rfl
 have h4:=hs.r.og _ (iP v s) gc hcb;have o1:=(hs.r.OA hi).grown (i:=2) (by simp) hg (r':=qZ {v.ys[i]with a1:=a',n1:=n',c1:=c',c:={v.ys[i].c with ns:=l'}}) hown hl;have o2:=o1.cell (i:=1) (by simp) (g:=gc) (c:=v.c2) (by show(l9 v).v=_;unfold l9;rw[hgc];rfl) (i*6+0) (.slice a' n' c') rfl;have e1:({l9 v with xs:=(l9 v).xs.set (i*6+0) (.slice a' n' c')}:Rs)=l9 (v.dN i {v.ys[i]with a1:=a',n1:=n',c1:=c',c:={v.ys[i].c with ns:=l'}}):=by
  unfold l9 Sc.dN;simp only[List.length_set];rw[vV dU (by decide) v.ys i hi (x:={v.ys[i]with a1:=a',n1:=n',c1:=c',c:={v.ys[i].c with ns:=l'}}) rfl]
 have sf:Safe (fun k=>¬v.blk s G k) W W2:=Safe.nI hg fun k hk e=>hk (.inr ⟨_,hrow,e.symm⟩)
 have hr:=hs.r.upC hi (y':={v.ys[i]with a1:=a',n1:=n',c1:=c',c:={v.ys[i].c with ns:=l'}}) (sf.set (fun h=>h (.inr ⟨_,iP v s,hcb⟩)) (i*6+0) (.slice a' n' c')) (by
  rw[<- e1];exact o2) (fun r hr' g' hg'=>by
  simp only[fP,List.mem_cons,List.not_mem_nil,or_false]at hr';rcases hr' with rfl | rfl | rfl
  ·rcases hl g' hg' with h | h
   ·exact .inl ⟨qZ v.ys[i],hrow,h⟩
   ·exact .inr (hs.r.fresh h)
  ·exact .inl ⟨mX v.ys[i],kH (gL hi) (by simp[fP]),hg'⟩
  ·exact .inl ⟨rC v.ys[i],kH (gL hi) (by simp[fP]),hg'⟩)
 have hG:some G≠(qZ v.ys[i]).v.ownBlock:=fun e=>(hs.r.og _ hrow G e.symm).1 rfl
 have hk1:=aA (bT hs.k hs.r.hr.gs hg hG) (c:=gc) (fun e=>h4.1 e.symm) (i*6+0) (.slice a' n' c');have hk2:=aG (bU hs.fz hs.r.hr.gs hg hG) ⟨gc,i*6+0,none⟩ (.slice a' n' c');rw[<- vW v s i]at hk1;exact⟨⟨hr,hk1,hk2⟩,(Safe.nI hg fun k hk e=>(hs.r.og _ hrow k e.symm).2 hk).set h4.2 (i*6+0) _⟩
theorem SS.aCW (hs:SS W G X s v)(hb:Below W.heap.size W W1){h':Hp}{hc':Hc}(hn:kU W1 W.heap.size h' hc')(hb2:Below W1.heap.size W1 W2){xs:List Int}{a:Option Addr}{n c:Nat}(ho:W2.ownsRow W1.heap.size 3 1 (.slice a n c) n (xs.map vI)):
 SS ((((((W2.setCell ⟨G,1,none⟩ (.slice hc'.az 2 hc'.cz)).setCell ⟨G,2,none⟩ (.slice hc'.am 2 hc'.cm)).setCell ⟨G,3,none⟩ (.int .i64 (h'.aC:Int))).setCell ⟨G,4,none⟩ (.slice hc'.al hc'.lc.length hc'.cl)).setCell ⟨G,5,none⟩ (.slice hc'.av h'.live.length hc'.cv)).setCell ⟨G,0,none⟩ (.slice a n c)) G X {s with w:=xs,h:=h'} {v with a1:=a,n1:=n,c1:=c,hc:=hc'}/\
 Safe X W ((((((W2.setCell ⟨G,1,none⟩ (.slice hc'.az 2 hc'.cz)).setCell ⟨G,2,none⟩ (.slice hc'.am 2 hc'.cm)).setCell ⟨G,3,none⟩ (.int .i64 (h'.aC:Int))).setCell ⟨G,4,none⟩ (.slice hc'.al hc'.lc.length hc'.cl)).setCell ⟨G,5,none⟩ (.slice hc'.av h'.live.length hc'.cv)).setCell ⟨G,0,none⟩ (.slice a n c)):=by
 have h1:=hs.r.heap hb hn;have h2:=h1.words hb2 ho;have K:=aB hs.k hs.r.hr.gs (Below.step hb hb2);have F:=aH hs.fz hs.r.hr.gs (Below.step hb hb2);have K1:=aI K 1 (.slice hc'.az 2 hc'.cz);have K2:=aI K1 2 (.slice hc'.am 2 hc'.cm);have K3:=aI K2 3 (.int .i64 (h'.aC:Int));have K4:=aI K3 4 (.slice hc'.al hc'.lc.length hc'.cl);have K5:=aI K4 5 (.slice hc'.av h'.live.length hc'.cv);have K6:=aI K5 0 (.slice a n c);have F1:=aG F ⟨G,1,none⟩ (.slice hc'.az 2 hc'.cz);have F2:=aG F1 ⟨G,2,none⟩ (.slice hc'.am 2 hc'.cm);have F3:=aG F2 ⟨G,3,none⟩ (.int .i64 (h'.aC:Int));have F4:=aG F3 ⟨G,4,none⟩ (.slice hc'.al hc'.lc.length hc'.cl);have F5:=aG F4 ⟨G,5,none⟩ (.slice hc'.av h'.live.length hc'.cv);have F6:=aG F5 ⟨G,0,none⟩ (.slice a n c);unfold Sc.vals at K6;simp only[gE,gG,gH]at K6;exact⟨⟨(((((h2.fO 1 _).fO 2 _).fO 3 _).fO 4 _).fO 5 _).fO 0 _,K6,F6⟩,((((((Safe.iM (Below.step hb hb2)).set hs.r.hr.xg 1 _).set hs.r.hr.xg 2 _).set hs.r.hr.xg 3 _).set hs.r.hr.xg 4 _).set hs.r.hr.xg 5 _).set hs.r.hr.xg 0 _⟩
theorem SS.Vu (hs:SS W G X s v){i:Nat}(hi:i<v.ys.length){y:Cc}(hy:v.ys[i]=y){l':List Sl}{a':Option Addr}{n' c':Nat}(hown:W2.ownsRow 0 137 3 (.slice a' n' c') n' (flat aX l'))(hg:W.grownBy W2 (mX y).v.ownBlock)
 (hl:∀k,(Value.slice a' n' c').ownBlock=some k->(mX y).v.ownBlock=some k∨W.heap.size<=k) {gc:Nat} (hgc:v.a2=some ⟨gc,0,none⟩):
 ∃v',SS (W2.setCell ⟨gc,i*6+4,none⟩ (.slice a' n' c')) G X (s.fH i {y.c with sl:=l'}) v'/\Safe X W (W2.setCell ⟨gc,i*6+4,none⟩ (.slice a' n' c'))/\v'.a2=v.a2:=by
 subst hy;have h:=hs.aCU hi hown hg hl hgc;exact⟨_,h.1,h.2,rfl⟩
theorem SR.ZK (hs:SR W G X s v){i:Nat}(hi:i<v.ys.length){y:Cc}(hy:v.ys[i]=y){gc:Nat}(hgc:v.a2=some ⟨gc,0,none⟩):(mX y).v.ownBlock≠some gc:=fun e=>by
 subst hy;have h:=(hs.OA hi).off (i:=1) (j:=3) (by simp) (by simp) (by decide) gc (by show(l9 v).v.ownBlock=_;unfold l9;rw[hgc];rfl);exact h e
theorem SS.aAU (hs:SS W G X s v){i:Nat}(hi:i<v.ys.length){y:Cc}(hy:v.ys[i]=y){g:Nat}(hg:y.a3=some ⟨g,0,none⟩)(cpu:Nat)(p:Int):
 ∃v',SS (W.setCell ⟨g,cpu,none⟩ (vI p)) G X (s.fH i {y.c with ac:=y.c.ac.set cpu p}) v'/\Safe X W (W.setCell ⟨g,cpu,none⟩ (vI p))/\v'.a2=v.a2:=by
 subst hy;have h:=hs.aCT hi hg cpu p;exact⟨_,h.1,h.2,rfl⟩
theorem SS.aFE (hs:SS W G X s v){i:Nat}(hi:i<v.ys.length){y:Cc}(hy:v.ys[i]=y){g:Nat}(hg:y.a2=some ⟨g,0,none⟩){k:Nat}(hk:k<y.c.sl.length)(h':Int){n':Nat}:
 ∃v',SS ((W.setCell ⟨g,k*3+2,none⟩ (vI h')).setCell ⟨g,k*3+1,none⟩ (vI n')) G X (s.fH i {y.c with sl:=y.c.sl.set k ⟨y.c.sl[k].p,n',h'⟩}) v'/\Safe X W ((W.setCell ⟨g,k*3+2,none⟩ (vI h')).setCell ⟨g,k*3+1,none⟩ (vI n'))/\v'.a2=v.a2:=by
 subst hy;have h1:=hs.Qs hi hg hk (x':=⟨v.ys[i].c.sl[k].p,v.ys[i].c.sl[k].n,h'⟩) (j:=2) (by decide) (u:=vI h') rfl rfl;have hi2:i<(v.dN i {v.ys[i]with c:={v.ys[i].c with sl:=v.ys[i].c.sl.set k ⟨v.ys[i].c.sl[k].p,v.ys[i].c.sl[k].n,h'⟩}}).ys.length:=by
  unfold Sc.dN;simpa using hi
 have e1:(v.dN i {v.ys[i]with c:={v.ys[i].c with sl:=v.ys[i].c.sl.set k ⟨v.ys[i].c.sl[k].p,v.ys[i].c.sl[k].n,h'⟩}}).ys[i]={v.ys[i]with c:={v.ys[i].c with sl:=v.ys[i].c.sl.set k ⟨v.ys[i].c.sl[k].p,v.ys[i].c.sl[k].n,h'⟩}}:=by simp[Sc.dN]
 have h2:=h1.1.Qs hi2 (g:=g) (by rw[e1];exact hg) (k:=k) (by rw[e1];simpa using hk) (x':=⟨v.ys[i].c.sl[k].p,n',h'⟩) (j:=1) (by decide) (u:=vI n') (by
  simp only[e1,List.getElem_set_self];rfl) rfl
 have h3:=h2.1;have e2:(s.fH i {v.ys[i].c with sl:=v.ys[i].c.sl.set k ⟨v.ys[i].c.sl[k].p,v.ys[i].c.sl[k].n,h'⟩}).fH i {(v.dN i {v.ys[i]with c:={v.ys[i].c with sl:=v.ys[i].c.sl.set k ⟨v.ys[i].c.sl[k].p,v.ys[i].c.sl[k].n,h'⟩}}).ys[i].c with sl:=(v.dN i {v.ys[i]with c:={v.ys[i].c with sl:=v.ys[i].c.sl.set k ⟨v.ys[i].c.sl[k].p,v.ys[i].c.sl[k].n,h'⟩}}).ys[i].c.sl.set k ⟨v.ys[i].c.sl[k].p,n',h'⟩}=s.fH i {v.ys[i].c with sl:=v.ys[i].c.sl.set k ⟨v.ys[i].c.sl[k].p,n',h'⟩}:=by
  unfold Sy.fH;simp only[e1,List.set_set]
 rw[e2]at h3;exact⟨_,h3,h1.2.trans h2.2,rfl⟩
end
end
section
open Go.RowKit
def Res (r:Option (Hp×Nat))(G:Nat)(X:Nat->Prop)(h:Hp)(c:Hc)(w:World)(ev:Ending)(w':World):Prop:=
 (r=none/\ev= .returned (.tuple #[.int .i64 0,.bool false])/\HS w' G X h c/\Safe X w w')∨
 (∃h' a c',r=some (h',a)/\ev= .returned (.tuple #[.int .i64 (a:Nat),.bool true])/\HS w' G X h' c'/\Safe X w w')
set_option maxHeartbeats 8000000 in
set_option maxRecDepth 100000 in
theorem Aa (G cpu z t flags:Nat)(X:Nat->Prop)(h:Hp)(c:Hc)(w:World)(hs:HS w G X h c)(hk:dZ h)(hc:cpu<h.aC)(hz:z<2)(ht:t<3)(hf:flags<=15)(ho:vT w)(hx0:X 1):
 Calls Tryz.prog 151 #[.pointer (some ⟨G,0,none⟩),.int .i64 cpu,.int .i64 z,.int .i64 t,.int .i64 flags] w (Res (h.single ⟨cpu,z,t,[]⟩ (h.held z (decide (flags/8%2=1)) (decide (flags%2=1)))) G X h c w):=by
 obtain⟨K4,F4,hsz,hbw⟩:=boxes1 w #[.int .i64 (cpu:Int),.int .i64 (z:Int),.int .i64 (t:Int),.slice none 0 0] 207;have HS0:=gO (hs.new hbw);have HSF0:=gO (Safe.iM (X:=X) hbw);have HO0:=gO (ho.below hbw);have HK:=gO hk;have hG0:G<(w.alloc (.cells #[.int .i64 (cpu:Int),.int .i64 (z:Int),.int .i64 (t:Int),.slice none 0 0] 207)).heap.size:=HS0.out.r.gs;obtain⟨k0,k1,k2,k3,k4⟩:=HS0.out.words;have b0:=K4 0;have b1:=K4 1;have b2:=K4 2;have b3:=K4 3;simp only[gB,gC,gD]at b0 b1 b2 b3;have hGw:=hs.r.gs;have HXW:=gO hs.r.xs;have OH:=hk.oW;have QA:=gO (zX hs.r);have hc24:c.lc.length<=24:=by rw[QA.out];exact OH
 clear hs hk hbw ho;go_enter Tryz.func151,Tryz.ntmps151
 go_wp2_with fail
 generalize w.alloc _=w1 at*;refine aS (by kernel_rfl) (by kernel_rfl) ?_
 repeat (go_big_quiet_step ((go_at_call 139;exact Calls.bV (Qu _ _ _ _ _ _ _ _ _ _ _ _ _ h ⟨cpu,z,t,[]⟩ none 0 0 _ (HS0.out.r.at.below (aQ w1 _)) HK.out ⟨hz,ht⟩ (by omega)))))
 refine wpQuiet_nil ?_;rintro _ ⟨wx,rfl⟩;have HS1:=gO (HS0.out.below (aQ w1 wx));have HSF1:=gO (HSF0.out.then (aQ w1 wx));have HO1:=gO (HO0.out.below (aQ w1 wx));have K4':=gO (aB K4 hsz (aQ w1 wx));have F4':=gO (aH F4 hsz (aQ w1 wx));have hsz1:w.heap.size<(ext w1 wx).heap.size:=gI hsz (aQ w1 wx).size;have ZM:w1.heap.size<=(ext w1 wx).heap.size:=(aQ w1 wx).size;clear k0 k1 k2 k3 k4 b0 b1 b2 b3 K4 F4 HS0 HSF0 HO0;generalize ext w1 wx=w2 at*;obtain⟨D,hD⟩:∃D,h.held z (decide (flags/8%2=1)) (decide (flags%2=1))=D:=⟨_,rfl⟩
 have HD:=gO hD;rw[hD];clear hD;cases hh:qQ h.ls (Ls.key ⟨cpu,z,t,[]⟩)with
 | true=>
  obtain⟨I,hI,hi0,Iu⟩:∃I,jJ h.ls (Ls.key ⟨cpu,z,t,[]⟩)=I/\∃hi:I<h.ls.length,Hid (h.single ⟨cpu,z,t,[]⟩ D=some ({h with ls:=if h.ls[I].p.length=1 then h.ls.eraseIdx I else h.ls.set I {h.ls[I]with p:=h.ls[I].p.dropLast}},h.ls[I].p.getLastD 0)):=by
   obtain⟨hi0,hkey⟩:=Fj hh;exact⟨_,rfl,hi0,GX hh hi0⟩
  rw[hI];clear hI hh;have h6:I<c.lc.length:=by rw[QA.out];exact hi0
  have h7:=gO (Io HS1.out.r h6 hi0);obtain⟨gl,hgl,zY,aA5,aA6,Ip⟩:=HS1.out.r.sJ (by omega);have hown:=HS1.out.r.kR _ (gL h6);have hlen:=wZ hown;have hok:=HK.out.lr _ (gL hi0);have hpos:=hok.2.2.2.1;have h8:=hok.2.2.2.2.1;rw[h7.out]at hlen;obtain⟨K,hKn⟩:∃K,c.lc[I].n=K+1:=⟨c.lc[I].n-1,by omega⟩
  have ND:=gO hKn;obtain⟨k0,k1,k2,k3,k4⟩:=HS1.out.words;rw[hgl]at k3;obtain⟨x0,x1,x2,x3⟩:=HS1.out.r.xB hgl h6;rw[hKn]at x3;have hKp:K<h.ls[I].p.length:=by omega
  obtain⟨pb,kZ,hpa,hpb,hpc⟩:=aN bQ (by decide) (aY hown) (j:=K) (by show K<(c.lc[I]).l.p.length;rw[h7.out];exact hKp);have hp0:=iJ hpc;rw[Nat.mul_one]at hp0;have HPA:=gO hpa;rw[hpa]at x3;have hcap:=dQ hown;rw[hKn]at hcap;have HOWN:=gO hown;obtain⟨P,hP⟩:∃P,(c.lc[I]).l.p[K]'(by rw[h7.out];exact hKp)=P:=⟨_,rfl⟩
  have HP:Hid (h.ls[I].p[K]? =some P):=by
   unfold Hid;rw[<- hP];simp only[<- h7.out];exact gJ _
  simp only[hP]at hp0;have hfz:=Ip (I*4+3) (by omega);have Jl:=gO hgl;have hKi:(K:Int)<(K:Int)+1:=by omega
  have hI2:(I:Int)<c.lc.length:=by omega
  have hcap2:(K:Int)<=(c.lc[I].c:Int):=by omega
  have aDb:G<w2.heap.size:=HS1.out.r.gs;obtain⟨CC,hCC⟩:∃CC,c.lc[I].c=CC:=⟨_,rfl⟩
  rw[hCC]at x3 hcap hcap2;have HCC:=gO hCC;clear hpc hpa hown hok hKn hP hgl Ip k0 k1 k2 k4 x0 x1 x2 hlen hCC;go_wp2_with fail
  go_still_tail 17,(by kernel_rfl)
  change wpList _ _ _ _ _ w2.drew;have HS3:=gO (HS1.out.below ((Below.refl w2.heap.size w2).drew));have HSF3:=gO (HSF1.out.then ((Below.refl w2.heap.size w2).drew));have HOWN3:=own_below HOWN.out ((Below.refl w2.heap.size w2).drew) (Nat.le_refl _);have hdw:w2.drew.heap.size=w2.heap.size:=rfl;have aKC:gl<w2.drew.heap.size:=zY;have aFW:G<w2.drew.heap.size:=aDb;clear hfz x3 k3 hp0;generalize w2.drew=w3 at*;have x3:=(HS3.out.r.xB Jl.out h6).2.2.2;obtain⟨_,EG,_,_,_,hf3⟩:=HS3.out.r.sJ (by omega);have hfz:w3.frozen? ⟨gl,I*4+3,none⟩=false:=by
   rw[Jl.out]at EG;obtain rfl:gl=_:=by simpa using EG
   exact hf3 _ (by omega)
  clear EG hf3;have ho4:(jZ ⟨{h.ls[I]with p:=h.ls[I].p.dropLast},some ⟨pb,kZ,none⟩,K,CC⟩).on w3 0:=by
   have h1:=jK HOWN3 (i:=K) (by show K<=c.lc[I].n;rw[ND.out];omega);have h2:=eH bQ c.lc[I].l.p K;unfold Rs.on jZ;simp only;have h3:(jZ c.lc[I]).xs.take (K*1)=flat gV h.ls[I].p.dropLast:=by
    show(flat gV c.lc[I].l.p).take (K*1)=_;rw[h2,h7.out,List.dropLast_eq_take];congr 2;have:=wZ HOWN3;rw[h7.out,ND.out]at this;omega
   have h4:=h1;rw[show(jZ c.lc[I]).k=1 from rfl,h3,HPA.out,HCC.out]at h4;exact h4
  obtain⟨hs4,sf4⟩:=HS3.out.page h6 (World.grownBy.refl w3 _) ho4 (by rw[h7.out];exact⟨rfl,rfl,rfl⟩) (fun k hk=> .inl (by simpa[jZ,Value.ownBlock,HPA.out]using hk)) Jl.out;have HS4:Hid (HS (w3.setCell ⟨gl,I*4+3,none⟩ (.slice (some ⟨pb,kZ,none⟩) K CC)) G (fun k=>X k∨(w.heap.size<=k/\k<w1.heap.size)) {h with ls:=h.ls.set I {h.ls[I]with p:=h.ls[I].p.dropLast}} {c with lc:=c.lc.set I ⟨{h.ls[I]with p:=h.ls[I].p.dropLast},some ⟨pb,kZ,none⟩,K,CC⟩}):=hs4;have HSF4:Hid (Safe X w (w3.setCell ⟨gl,I*4+3,none⟩ (.slice (some ⟨pb,kZ,none⟩) K CC))):=HSF3.out.trans (sf4.sub fun k _ hk=> .inl hk);have hlen1:Hid (h.ls[I].p.length=K+1):=by
   have hl:=wZ HOWN3;rw[h7.out,ND.out]at hl;exact hl
  have HLG:Hid (h.ls[I].p.getLastD 0=P):=by
   unfold Hid;rw[List.getLastD_eq_getLast?,List.getLast?_eq_getElem?,hlen1.out,Nat.add_sub_cancel,HP.out];rfl
  clear hs4 sf4 ho4 HOWN3 HOWN hKp hpos h8;by_cases hK0:K=0
  ·subst hK0;obtain⟨_,_,_,q3,_⟩:=HS4.out.words;simp only[List.length_set]at q3;rw[Jl.out]at q3;have HHS:Hid ((h.ls.set I {h.ls[I]with p:=h.ls[I].p.dropLast}).eraseIdx I=h.ls.eraseIdx I):=List.eraseIdx_set_eq;go_wp2_with fail
   generalize hW4:w3.setCell ⟨gl,I*4+3,none⟩ (.slice (some ⟨pb,kZ,none⟩) 0 CC)=w4 at*;clear hW4;obtain⟨c4,hc4⟩:∃c4:Hc,({c with lc:=c.lc.set I ⟨{h.ls[I]with p:=h.ls[I].p.dropLast},some ⟨pb,kZ,none⟩,0,CC⟩}:Hc)=c4:=⟨_,rfl⟩
   have aBk:c4.al=some ⟨gl,0,none⟩:=by rw[<- hc4];exact Jl.out
   have aBl:c4.cl=c.cl:=by rw[<- hc4]
   have aBm:c4.lc.length=c.lc.length:=by rw[<- hc4];simp
   rw[hc4]at HS4;have Au:=gO aBk;have HLN4:=gO aBm;have hown4:=HS4.out.r.lsr;unfold qM at hown4;unfold Rs.on at hown4;simp only[aBk,aBl,aBm]at hown4;have HOWN4:=gO hown4;have XF:=gO aBl;clear hown4 hc4 aBk aBl aBm;refine(SQ 0 (some ⟨gl,0,none⟩) c.lc.length c.cl c4.lc I w4 HOWN4.out h6 (by omega) (Nat.zero_le _)).mono ?_;rintro ev w5 ⟨rfl,ho5,hg5⟩;have hle:(c4.lc.eraseIdx I).length=c.lc.length-1:=by rw[List.length_eraseIdx_of_lt (by rw[HLN4.out];exact h6),HLN4.out]
   have hlb:(qM c4).v.ownBlock=some gl:=by unfold qM;rw[Au.out];rfl
   have hG4:G<w4.heap.size:=HS4.out.r.gs;have wF:(Value.slice (some ⟨gl,0,none⟩) c.lc.length c.cl).ownBlock≠some G:=fun e=>(HS4.out.r.og _ (iO c4 _) G (by rw[hlb];simpa[Value.ownBlock]using e)).1 rfl
   have q5:=(bT HS4.out.k hG4 hg5 (fun e=>wF e.symm) 3).trans (show _=some (.slice c4.al c4.lc.length c4.cl)from rfl);have f5:=bU HS4.out.fz hG4 hg5 (fun e=>wF e.symm) 3;have hG5:G<w5.heap.size:=gI hG4 hg5.size;have hpo:dJ w4 0 ((c4.lc.eraseIdx I).map jZ):=HS4.out.r.own.sub (by
    unfold Hc.rows;refine(((List.sublist_cons_self _ _).trans (List.sublist_cons_self _ _)).trans (List.sublist_cons_self _ _)) |> fun h=>List.Sublist.trans ?_ h
    exact(List.eraseIdx_sublist _ _).map jZ)
   obtain⟨hs6,sf6⟩:=HS4.out.lists (W':=w5) (by rw[hlb];simpa[Value.ownBlock]using hg5) (al':=some ⟨gl,0,none⟩) (cl':=c.cl) (sH:=c4.lc.eraseIdx I) (by rw[hle];exact ho5) (fun k hk=> .inl (by rw[hlb];simpa[Value.ownBlock]using hk)) hpo (fun r hr g hg=> .inl ⟨r,((List.eraseIdx_sublist _ _).map jZ).subset hr,hg⟩);rw[hle]at hs6 sf6;have aDu:(c4.lc.eraseIdx I).map Lc.l=h.ls.eraseIdx I:=by
    rw[List.eraseIdx_eq_take_drop_succ,List.map_append,List.map_take,List.map_drop,<- List.eraseIdx_eq_take_drop_succ,HS4.out.r.ll];exact HHS.out
   rw[aDu]at hs6;have HS6:=gO hs6;have HSF6:=gO (HSF4.out.trans (sf6.sub fun k _ hk=> .inl hk));clear hs6 sf6 hpo aDu ho5 hg5 hlb hle wF q3;go_wp2
   go_ret2
   refine .inr ⟨_,P,_,?_,rfl,HS6.out.sub fun k hk=> .inl hk,HSF6.out⟩;rw[HD.out,Iu.out,HLG.out,if_pos (by rw[hlen1.out])]
  ·have d0:((K:Int) == 0)=false:=by rw[beq_eq_false_iff_ne];omega
   go_wp2
   go_ret2
   refine .inr ⟨_,P,_,?_,rfl,HS4.out.sub fun k hk=> .inl hk,HSF4.out⟩;rw[HD.out,Iu.out,HLG.out,if_neg (by rw[hlen1.out];omega)]
 | false=>
  have HSN:=gO (NW (hd:=D) hh);have aDv:=gO (oL HK.out.lk (Ci hh));clear hh;go_wp2_with fail
  refine(yN G z 0 t flags (fun k=>X k∨(w.heap.size<=k/\k<w1.heap.size)) h c w2 HS1.out HK.out hz (by omega) ht hf HO1.out).mono ?_;rintro ev w3 (⟨hno,rfl,hs3,sf3⟩ | ⟨h1,a1,y0,y1,hso,rfl,hs3,sf3⟩)
  ·rw[HD.out]at hno;have Yr:=gO hno;have HS3:=gO hs3;have HSF3:=gO (HSF1.out.trans (sf3.sub fun k _ hk=> .inl hk));clear hs3 sf3 hno;go_wp2_with fail
   go_loopw [19] (fun s19 wr=>s19= .int .i64 1/\wr=w3) (fun _ _=>0)
   case atStart=>exact⟨rfl,rfl⟩
   case round=>
    obtain⟨rfl,rfl⟩:=hrel;go_wp2
    go_ret2
    exact .inl ⟨by rw[HD.out,HSN.out,Yr.out];rfl,rfl,HS3.out.sub fun k hk=> .inl hk,HSF3.out⟩
  ·rw[HD.out]at hso;have HSO:=gO hso;obtain⟨hT,aDw,hz1⟩:=HK.out.lF (by omega) ht hz hso;have HS3:=gO hs3;have HSF3:=gO (HSF1.out.trans (sf3.sub fun k _ hk=> .inl hk));have HO3:=gO (HO1.out.safe sf3 (Or.inl hx0));have hXB:(fun k=>X k∨(w.heap.size<=k/\k<w1.heap.size)) w.heap.size:= .inr ⟨Nat.le_refl _,hsz⟩;have K5:=gO (sf3.box K4'.out hsz1 hXB);have hsz3:w.heap.size<w3.heap.size:=gI hsz1 sf3.size;have HT:=gO hT;have HM8:Hid (∀x∈h1.ls,x.key=(Ls.key ⟨cpu,z,t,[]⟩)->x.p.length+3<=8):=fun x hx hkey=>absurd hkey (aDv.out x (by rw[<- aDw];exact hx))
   have HXB:=gO hXB;clear hs3 sf3 hso hT aDw hz1 HS1 HSF1 HO1 K4' F4' hXB;go_wp2_with fail
   go_loopw [19] (fun s19 wr=>∃(j:Nat) (hj:Hp) (cj:Hc),j<=3/\s19= .int .i64 (1+j:Int)/\Hid (HS wr G (fun k=>X k∨(w.heap.size<=k/\k<w1.heap.size)) hj cj)/\Hid (Safe (fun k=>X k∨(w.heap.size<=k/\k<w1.heap.size)) w3 wr)/\Hid (dZ hj)/\Hid (Same h hj)/\Hid (h1.fill ⟨cpu,z,t,[]⟩ D 3=hj.fill ⟨cpu,z,t,[]⟩ D (3-j))/\Hid (∀x∈hj.ls,x.key=(Ls.key ⟨cpu,z,t,[]⟩)->x.p.length+(3-j)<=8)) (fun s19 _=>4-(intOf s19).toNat)
   case atStart=>exact⟨0,h1,_,Nat.zero_le _,rfl,HS3,Safe.refl _ _,HT.out.ok,HT.out.same,rfl,HM8⟩
   case round=>
    obtain⟨j,hj,cj,hj3,rfl,wL,SFj,En,aBo,HFj,H8j⟩:=hrel;clear HS3 HM8;have K6:=gO (SFj.out.box K5.out hsz3 HXB.out);have aDl:w.heap.size<wr.heap.size:=gI hsz3 SFj.out.size;by_cases hlt:j<3
    ·have hlt2:(1:Int)+j<4:=by omega
     have HDj:=gO ((Rq HK.out En.out aBo.out z (decide (flags/8%2=1)) (decide (flags%2=1))).trans HD.out);have HOj:=gO (HO3.out.safe SFj.out (Or.inl hx0));obtain⟨m,hm⟩:∃m,3-j=m+1:=⟨2-j,by omega⟩
     have VU:=gO hm;have hm3:m+1<=3:=by omega
     clear hm;go_wp2_with fail
     refine(yN G z 0 t flags (fun k=>X k∨(w.heap.size<=k/\k<w1.heap.size)) hj cj wr wL.out En.out hz (by omega) ht hf HOj.out).mono ?_;rintro ev w4 (⟨hno,rfl,hs4,sf4⟩ | ⟨h2,a2,y0',y1',hso,rfl,hs4,sf4⟩)
     ·rw[HDj.out]at hno;have HFF:Hid (h1.fill ⟨cpu,z,t,[]⟩ D 3=hj):=by
       unfold Hid;rw[HFj.out,VU.out];unfold Hp.fill;simp only[hno]
      have HS4:=gO hs4;have HSF4:=gO (HSF3.out.trans ((SFj.out.trans sf4).sub fun k _ hk=> .inl hk));clear hs4 sf4 hno;go_wp2
      go_ret2
      exact .inr ⟨_,a1,_,by rw[HD.out,HSN.out,HSO.out];simp only[Option.map_some];rw[HFF.out],rfl,HS4.out.sub fun k hk=> .inl hk,HSF4.out⟩
     ·rw[HDj.out]at hso;have bJ:cpu<hj.aC:=by rw[aBo.out.aC];exact hc
      obtain⟨g1,g2,g3,g4⟩:=En.out.Rt (l:=⟨cpu,z,t,[]⟩) (n:=m) ⟨bJ,hz,ht⟩ (by rw[<- VU.out];exact H8j.out) (by omega) hso;have HFF:Hid (h1.fill ⟨cpu,z,t,[]⟩ D 3=Hp.fill {h2 with ls:=bG h2.ls ⟨cpu,z,t,[]⟩ a2} ⟨cpu,z,t,[]⟩ D m):=by
       unfold Hid;rw[HFj.out,VU.out,Hp.fill];simp only[hso]
      have HS4:=gO hs4;have SF4:=gO (SFj.out.trans sf4);have K7:=gO (sf4.box K6.out aDl HXB.out);have G1:=gO g1;have G2:=gO g2;have G3:=gO g3;have G4:=gO (aBo.out.trans g4);have b0:=K7.out 0;have b1:=K7.out 1;have b2:=K7.out 2;have b3:=K7.out 3;simp only[gB,gC,gD]at b0 b1 b2 b3;have hmj:m=3-(j+1):=by have:=VU.out;omega
      clear hs4 sf4 hso g1 g2 g3 g4 wL SFj HFj H8j K6 K7;go_wp2_with fail
      refine(Qz G a2 ⟨cpu,z,t,[]⟩ none 0 0 (fun k=>X k∨(w.heap.size<=k/\k<w1.heap.size)) h2 _ w4 HS4.out G1.out ⟨hz,ht⟩).mono ?_;rintro ev w5 ⟨rfl,⟨al',cl',sH,hs5⟩,sf5⟩;have HS5:=gO hs5;have SF5:=gO (SF4.out.trans sf5);clear hs5 sf5 b0 b1 b2 b3;subst hmj;go_wp2
      go_roundw
      case rel=>exact⟨j+1,_,_,by omega,by go_num,HS5,SF5,G2,G4,HFF,G3⟩
      case measure=>simp[intOf];omega
    ·obtain rfl:j=3:=by omega
     have HFF:Hid (h1.fill ⟨cpu,z,t,[]⟩ D 3=hj):=HFj.out;have HSF4:=gO (HSF3.out.trans (SFj.out.sub fun k _ hk=> .inl hk));go_wp2
     go_ret2
     exact .inr ⟨_,a1,_,by rw[HD.out,HSN.out,HSO.out];simp only[Option.map_some];rw[HFF.out],rfl,wL.out.sub fun k hk=> .inl hk,HSF4.out⟩
end
section
open Go.RowKit
def Hp.tries (h:Hp)(cpu order t:Nat)(u lo:Bool):Nat->Option (Hp×Nat)
 | 0=>none
 | r+1=>match h.ask cpu r order t u lo with
  | some x=>some x
  | none=>Hp.tries h cpu order t u lo r
theorem EH (h:Hp)(cpu order t:Nat)(u lo:Bool):h.attempt cpu order t u lo=h.tries cpu order t u lo (if lo then 1 else 2):=by
 unfold Hp.attempt;cases lo with
 | true=>
  simp only[if_true,Hp.tries];cases h.ask cpu 0 order t u true <;> rfl
 | false=>
  simp only[Bool.false_eq_true,if_false,Hp.tries];cases h.ask cpu 1 order t u false with
  | some x=>rfl
  | none=>simp only;cases h.ask cpu 0 order t u false <;> rfl
set_option maxHeartbeats 8000000 in
set_option maxRecDepth 100000 in
theorem Dv (G cpu order t flags:Nat)(X:Nat->Prop)(h:Hp)(c:Hc)(w:World)(hs:HS w G X h c)(hk:dZ h)(hc:cpu<h.aC)(hor:order<=4)(ht:t<3)(hf:flags<=15)(ho:vT w)(hx0:X 1):
 Calls Tryz.prog 107 #[.pointer (some ⟨G,0,none⟩),.int .i64 cpu,.int .i64 order,.int .i64 t,.int .i64 flags] w (Res (h.attempt cpu order t (decide (flags/8%2=1)) (decide (flags%2=1))) G X h c w):=by
 obtain⟨K4,F4,hsz,hbw⟩:=boxes1 w #[.int .i64 1,.int .i64 0] 3;have HS0:=gO (hs.new hbw);have HSF0:=gO (Safe.iM (X:=X) hbw);have HO0:=gO (ho.below hbw);have HK:=gO hk;have KZ:=gO K4;have HXW:=gO hs.r.xs;obtain⟨hb8,hb1⟩:=Ko flags hf;have HA:=gO (EH h cpu order t (decide (flags/8%2=1)) (decide (flags%2=1)));clear hs hk hbw ho K4 F4;by_cases hlo:flags%2=1
 ·rw[if_pos hlo]at hb1;have HA2:Hid (h.attempt cpu order t (decide (flags/8%2=1)) (decide (flags%2=1))=h.tries cpu order t (decide (flags/8%2=1)) (decide (flags%2=1)) 1):=by
   unfold Hid;rw[HA.out];congr 1;simp[hlo]
  go_enter Tryz.func107,Tryz.ntmps107
  go_wp2_with fail
  generalize w.alloc _=w1 at*;go_loopw [25] (fun s25 wr=>∃i:Nat,i<=1/\s25= .int .i64 (i:Int)/\Hid (HS wr G (fun k=>X k∨(w.heap.size<=k/\k<w1.heap.size)) h c)/\Hid (Safe (fun k=>X k∨(w.heap.size<=k/\k<w1.heap.size)) w1 wr)/\Hid (h.attempt cpu order t (decide (flags/8%2=1)) (decide (flags%2=1))=h.tries cpu order t (decide (flags/8%2=1)) (decide (flags%2=1)) (1-i))) (fun s25 _=>1-(intOf s25).toNat)
  case atStart=>exact⟨0,by omega,rfl,HS0,Safe.refl _ _,HA2⟩
  case round=>
   obtain⟨i,hi,rfl,lM,zZ,HTR⟩:=hrel;clear HA HA2;have HOr:=gO (HO0.out.safe zZ.out (Or.inl hx0));have KZr:=zZ.out.box KZ.out hsz (show(fun k=>X k∨(w.heap.size<=k/\k<w1.heap.size)) w.heap.size from .inr ⟨Nat.le_refl _,hsz⟩);have z0:=KZr 0;have z1:=KZr 1;simp only[gB,gC,gD]at z0 z1;clear KZr;obtain rfl | rfl:i=0∨i=1:=by omega
   ·skip
    have QF:Hid (h.attempt cpu order t (decide (flags/8%2=1)) (decide (flags%2=1))=match h.ask cpu 0 order t (decide (flags/8%2=1)) (decide (flags%2=1))with
     | some x=>some x
     | none=>h.tries cpu order t (decide (flags/8%2=1)) (decide (flags%2=1)) 0):=HTR.out
    by_cases h0:order=0
    ·have d0:((order:Int) == 0)=true:=by rw[beq_iff_eq];omega
     have H0:=gO h0;clear h0;go_wp2_with fail
     refine(Aa G cpu 0 t flags (fun k=>X k∨(w.heap.size<=k/\k<w1.heap.size)) h c wr lM.out HK.out hc (by omega) ht hf HOr.out (Or.inl hx0)).mono ?_;rintro ev w4 (⟨hno,rfl,hs',uY⟩ | ⟨h',a,c',hso,rfl,hs',uY⟩)
     ·have HN:Hid (h.ask cpu 0 order t (decide (flags/8%2=1)) (decide (flags%2=1))=none):=by
       unfold Hid Hp.ask;rw[if_pos H0.out];exact hno
      have HRT2:Hid (h.attempt cpu order t (decide (flags/8%2=1)) (decide (flags%2=1))=h.tries cpu order t (decide (flags/8%2=1)) (decide (flags%2=1)) (1-1)):=by
       unfold Hid;rw[QF.out,HN.out]
      have HS4:=gO hs';have SF4:=gO (zZ.out.trans uY);clear hno hs' uY;go_wp2
      go_roundw
      case rel=>exact⟨1,by omega,by go_num,HS4,SF4,HRT2⟩
      case measure=>simp[intOf]
     ·have HN:Hid (h.attempt cpu order t (decide (flags/8%2=1)) (decide (flags%2=1))=some (h',a)):=by
       have e:h.ask cpu 0 order t (decide (flags/8%2=1)) (decide (flags%2=1))=some (h',a):=by
        unfold Hp.ask;rw[if_pos H0.out];exact hso
       unfold Hid;rw[QF.out,e]
      have HS4:=gO (hs'.sub (Y:=X) fun k hk=> .inl hk);have SF4:=gO (HSF0.out.trans ((zZ.out.trans uY).sub fun k _ hk=> .inl hk));clear hso hs' uY;go_wp2
      go_ret2
      exact .inr ⟨h',a,c',HN.out,rfl,HS4.out,SF4.out⟩
    ·have d0:((order:Int) == 0)=false:=by rw[beq_eq_false_iff_ne];omega
     have H0:=gO h0;clear h0;go_wp2_with fail
     refine(yN G 0 order t flags (fun k=>X k∨(w.heap.size<=k/\k<w1.heap.size)) h c wr lM.out HK.out (by omega) hor ht hf HOr.out).mono ?_;rintro ev w4 (⟨hno,rfl,hs',uY⟩ | ⟨h',a,y0',y1',hso,rfl,hs',uY⟩)
     ·have HN:Hid (h.ask cpu 0 order t (decide (flags/8%2=1)) (decide (flags%2=1))=none):=by
       unfold Hid Hp.ask;rw[if_neg H0.out];exact hno
      have HRT2:Hid (h.attempt cpu order t (decide (flags/8%2=1)) (decide (flags%2=1))=h.tries cpu order t (decide (flags/8%2=1)) (decide (flags%2=1)) (1-1)):=by
       unfold Hid;rw[QF.out,HN.out]
      have HS4:=gO hs';have SF4:=gO (zZ.out.trans uY);clear hno hs' uY;go_wp2
      go_roundw
      case rel=>exact⟨1,by omega,by go_num,HS4,SF4,HRT2⟩
      case measure=>simp[intOf]
     ·have HN:Hid (h.attempt cpu order t (decide (flags/8%2=1)) (decide (flags%2=1))=some (h',a)):=by
       have e:h.ask cpu 0 order t (decide (flags/8%2=1)) (decide (flags%2=1))=some (h',a):=by
        unfold Hp.ask;rw[if_neg H0.out];exact hso
       unfold Hid;rw[QF.out,e]
      have HS4:=gO (hs'.sub (Y:=X) fun k hk=> .inl hk);have SF4:=gO (HSF0.out.trans ((zZ.out.trans uY).sub fun k _ hk=> .inl hk));clear hso hs' uY;go_wp2
      go_ret2
      exact .inr ⟨h',a,_,HN.out,rfl,HS4.out,SF4.out⟩
   ·have HS4:=gO (lM.out.sub (Y:=X) fun k hk=> .inl hk);have SF4:=gO (HSF0.out.trans (zZ.out.sub fun k _ hk=> .inl hk));go_wp2
    go_ret2
    exact .inl ⟨HTR.out,rfl,HS4.out,SF4.out⟩
 ·rw[if_neg hlo]at hb1;have HA2:Hid (h.attempt cpu order t (decide (flags/8%2=1)) (decide (flags%2=1))=h.tries cpu order t (decide (flags/8%2=1)) (decide (flags%2=1)) 2):=by
   unfold Hid;rw[HA.out];congr 1;simp[hlo]
  go_enter Tryz.func107,Tryz.ntmps107
  go_wp2_with fail
  generalize w.alloc _=w1 at*;go_loopw [25] (fun s25 wr=>∃i:Nat,i<=2/\s25= .int .i64 (i:Int)/\Hid (HS wr G (fun k=>X k∨(w.heap.size<=k/\k<w1.heap.size)) h c)/\Hid (Safe (fun k=>X k∨(w.heap.size<=k/\k<w1.heap.size)) w1 wr)/\Hid (h.attempt cpu order t (decide (flags/8%2=1)) (decide (flags%2=1))=h.tries cpu order t (decide (flags/8%2=1)) (decide (flags%2=1)) (2-i))) (fun s25 _=>2-(intOf s25).toNat)
  case atStart=>exact⟨0,by omega,rfl,HS0,Safe.refl _ _,HA2⟩
  case round=>
   obtain⟨i,hi,rfl,lM,zZ,HTR⟩:=hrel;clear HA HA2;have HOr:=gO (HO0.out.safe zZ.out (Or.inl hx0));have KZr:=zZ.out.box KZ.out hsz (show(fun k=>X k∨(w.heap.size<=k/\k<w1.heap.size)) w.heap.size from .inr ⟨Nat.le_refl _,hsz⟩);have z0:=KZr 0;have z1:=KZr 1;simp only[gB,gC,gD]at z0 z1;clear KZr;obtain rfl | rfl | rfl:i=0∨i=1∨i=2:=by omega
   ·skip
    have QF:Hid (h.attempt cpu order t (decide (flags/8%2=1)) (decide (flags%2=1))=match h.ask cpu 1 order t (decide (flags/8%2=1)) (decide (flags%2=1))with
     | some x=>some x
     | none=>h.tries cpu order t (decide (flags/8%2=1)) (decide (flags%2=1)) 1):=HTR.out
    by_cases h0:order=0
    ·have d0:((order:Int) == 0)=true:=by rw[beq_iff_eq];omega
     have H0:=gO h0;clear h0;go_wp2_with fail
     refine(Aa G cpu 1 t flags (fun k=>X k∨(w.heap.size<=k/\k<w1.heap.size)) h c wr lM.out HK.out hc (by omega) ht hf HOr.out (Or.inl hx0)).mono ?_;rintro ev w4 (⟨hno,rfl,hs',uY⟩ | ⟨h',a,c',hso,rfl,hs',uY⟩)
     ·have HN:Hid (h.ask cpu 1 order t (decide (flags/8%2=1)) (decide (flags%2=1))=none):=by
       unfold Hid Hp.ask;rw[if_pos H0.out];exact hno
      have HRT2:Hid (h.attempt cpu order t (decide (flags/8%2=1)) (decide (flags%2=1))=h.tries cpu order t (decide (flags/8%2=1)) (decide (flags%2=1)) (2-1)):=by
       unfold Hid;rw[QF.out,HN.out]
      have HS4:=gO hs';have SF4:=gO (zZ.out.trans uY);clear hno hs' uY;go_wp2
      go_roundw
      case rel=>exact⟨1,by omega,by go_num,HS4,SF4,HRT2⟩
      case measure=>simp[intOf]
     ·have HN:Hid (h.attempt cpu order t (decide (flags/8%2=1)) (decide (flags%2=1))=some (h',a)):=by
       have e:h.ask cpu 1 order t (decide (flags/8%2=1)) (decide (flags%2=1))=some (h',a):=by
        unfold Hp.ask;rw[if_pos H0.out];exact hso
       unfold Hid;rw[QF.out,e]
      have HS4:=gO (hs'.sub (Y:=X) fun k hk=> .inl hk);have SF4:=gO (HSF0.out.trans ((zZ.out.trans uY).sub fun k _ hk=> .inl hk));clear hso hs' uY;go_wp2
      go_ret2
      exact .inr ⟨h',a,c',HN.out,rfl,HS4.out,SF4.out⟩
    ·have d0:((order:Int) == 0)=false:=by rw[beq_eq_false_iff_ne];omega
     have H0:=gO h0;clear h0;go_wp2_with fail
     refine(yN G 1 order t flags (fun k=>X k∨(w.heap.size<=k/\k<w1.heap.size)) h c wr lM.out HK.out (by omega) hor ht hf HOr.out).mono ?_;rintro ev w4 (⟨hno,rfl,hs',uY⟩ | ⟨h',a,y0',y1',hso,rfl,hs',uY⟩)
     ·have HN:Hid (h.ask cpu 1 order t (decide (flags/8%2=1)) (decide (flags%2=1))=none):=by
       unfold Hid Hp.ask;rw[if_neg H0.out];exact hno
      have HRT2:Hid (h.attempt cpu order t (decide (flags/8%2=1)) (decide (flags%2=1))=h.tries cpu order t (decide (flags/8%2=1)) (decide (flags%2=1)) (2-1)):=by
       unfold Hid;rw[QF.out,HN.out]
      have HS4:=gO hs';have SF4:=gO (zZ.out.trans uY);clear hno hs' uY;go_wp2
      go_roundw
      case rel=>exact⟨1,by omega,by go_num,HS4,SF4,HRT2⟩
      case measure=>simp[intOf]
     ·have HN:Hid (h.attempt cpu order t (decide (flags/8%2=1)) (decide (flags%2=1))=some (h',a)):=by
       have e:h.ask cpu 1 order t (decide (flags/8%2=1)) (decide (flags%2=1))=some (h',a):=by
        unfold Hp.ask;rw[if_neg H0.out];exact hso
       unfold Hid;rw[QF.out,e]
      have HS4:=gO (hs'.sub (Y:=X) fun k hk=> .inl hk);have SF4:=gO (HSF0.out.trans ((zZ.out.trans uY).sub fun k _ hk=> .inl hk));clear hso hs' uY;go_wp2
      go_ret2
      exact .inr ⟨h',a,_,HN.out,rfl,HS4.out,SF4.out⟩
   ·skip
    have QF:Hid (h.attempt cpu order t (decide (flags/8%2=1)) (decide (flags%2=1))=match h.ask cpu 0 order t (decide (flags/8%2=1)) (decide (flags%2=1))with
     | some x=>some x
     | none=>h.tries cpu order t (decide (flags/8%2=1)) (decide (flags%2=1)) 0):=HTR.out
    by_cases h0:order=0
    ·have d0:((order:Int) == 0)=true:=by rw[beq_iff_eq];omega
     have H0:=gO h0;clear h0;go_wp2_with fail
     refine(Aa G cpu 0 t flags (fun k=>X k∨(w.heap.size<=k/\k<w1.heap.size)) h c wr lM.out HK.out hc (by omega) ht hf HOr.out (Or.inl hx0)).mono ?_;rintro ev w4 (⟨hno,rfl,hs',uY⟩ | ⟨h',a,c',hso,rfl,hs',uY⟩)
     ·have HN:Hid (h.ask cpu 0 order t (decide (flags/8%2=1)) (decide (flags%2=1))=none):=by
       unfold Hid Hp.ask;rw[if_pos H0.out];exact hno
      have HRT2:Hid (h.attempt cpu order t (decide (flags/8%2=1)) (decide (flags%2=1))=h.tries cpu order t (decide (flags/8%2=1)) (decide (flags%2=1)) (2-2)):=by
       unfold Hid;rw[QF.out,HN.out]
      have HS4:=gO hs';have SF4:=gO (zZ.out.trans uY);clear hno hs' uY;go_wp2
      go_roundw
      case rel=>exact⟨2,by omega,by go_num,HS4,SF4,HRT2⟩
      case measure=>simp[intOf]
     ·have HN:Hid (h.attempt cpu order t (decide (flags/8%2=1)) (decide (flags%2=1))=some (h',a)):=by
       have e:h.ask cpu 0 order t (decide (flags/8%2=1)) (decide (flags%2=1))=some (h',a):=by
        unfold Hp.ask;rw[if_pos H0.out];exact hso
       unfold Hid;rw[QF.out,e]
      have HS4:=gO (hs'.sub (Y:=X) fun k hk=> .inl hk);have SF4:=gO (HSF0.out.trans ((zZ.out.trans uY).sub fun k _ hk=> .inl hk));clear hso hs' uY;go_wp2
      go_ret2
      exact .inr ⟨h',a,c',HN.out,rfl,HS4.out,SF4.out⟩
    ·have d0:((order:Int) == 0)=false:=by rw[beq_eq_false_iff_ne];omega
     have H0:=gO h0;clear h0;go_wp2_with fail
     refine(yN G 0 order t flags (fun k=>X k∨(w.heap.size<=k/\k<w1.heap.size)) h c wr lM.out HK.out (by omega) hor ht hf HOr.out).mono ?_;rintro ev w4 (⟨hno,rfl,hs',uY⟩ | ⟨h',a,y0',y1',hso,rfl,hs',uY⟩)
     ·have HN:Hid (h.ask cpu 0 order t (decide (flags/8%2=1)) (decide (flags%2=1))=none):=by
       unfold Hid Hp.ask;rw[if_neg H0.out];exact hno
      have HRT2:Hid (h.attempt cpu order t (decide (flags/8%2=1)) (decide (flags%2=1))=h.tries cpu order t (decide (flags/8%2=1)) (decide (flags%2=1)) (2-2)):=by
       unfold Hid;rw[QF.out,HN.out]
      have HS4:=gO hs';have SF4:=gO (zZ.out.trans uY);clear hno hs' uY;go_wp2
      go_roundw
      case rel=>exact⟨2,by omega,by go_num,HS4,SF4,HRT2⟩
      case measure=>simp[intOf]
     ·have HN:Hid (h.attempt cpu order t (decide (flags/8%2=1)) (decide (flags%2=1))=some (h',a)):=by
       have e:h.ask cpu 0 order t (decide (flags/8%2=1)) (decide (flags%2=1))=some (h',a):=by
        unfold Hp.ask;rw[if_neg H0.out];exact hso
       unfold Hid;rw[QF.out,e]
      have HS4:=gO (hs'.sub (Y:=X) fun k hk=> .inl hk);have SF4:=gO (HSF0.out.trans ((zZ.out.trans uY).sub fun k _ hk=> .inl hk));clear hso hs' uY;go_wp2
      go_ret2
      exact .inr ⟨h',a,_,HN.out,rfl,HS4.out,SF4.out⟩
   ·have HS4:=gO (lM.out.sub (Y:=X) fun k hk=> .inl hk);have SF4:=gO (HSF0.out.trans (zZ.out.sub fun k _ hk=> .inl hk));go_wp2
    go_ret2
    exact .inl ⟨HTR.out,rfl,HS4.out,SF4.out⟩
end
section
open Go.RowKit
set_option maxHeartbeats 8000000 in
set_option maxRecDepth 100000 in
theorem Tn (az am al av:Option Addr)(cz cm cl cv nl nv:Nat)(y0 y1:Zc)(lc:List Lc)(h:Hp)(w:World)(hh:HAt w az am al av nl nv y0 y1 lc h)(hk:dZ h)(hnl:nl<=1000)(OB:nv<=1000):
 Calls Tryz.prog 48 #[.agg #[.slice az 2 cz,.slice am 2 cm,.int .i64 h.aC,.slice al nl cl,.slice av nv cv]] w fun ev w'=>∃c':Hc,ev= .returned (.tuple #[.agg (c'.vals h.drain),.int .i64 0])/\kU w' w.heap.size h.drain c'/\Below w.heap.size w w':=by
 obtain⟨K1,K2,F1,F2,hsz,hbw⟩:=boxes2 w #[.slice az 2 cz,.slice am 2 cm,.int .i64 (h.aC:Int),.slice al nl cl,.slice av nv cv] 44 #[.slice none 0 0,.slice none 0 0,.int .i64 0,.slice none 0 0,.slice none 0 0] 44;have HH:=gO (hh.below hbw);have HK:=gO hk;have HB1:=gO hbw;have hcp:h.drain.aC=h.aC:=hk.drain.2.2.1.aC;have NC:=gO hcp;have k10:=K1 0;have k11:=K1 1;have k12:=K1 2;have k13:=K1 3;have k14:=K1 4;simp only[gB,gC,gD]at k10 k11 k12 k13 k14;clear hh hk hbw hcp;go_enter Tryz.func48,Tryz.ntmps48
 go_wp2_with fail
 generalize (w.alloc _).alloc _=w1 at*;refine(vX _ _ _ _ _ _ _ _ _ _ _ _ _ h w1 HH.out HK.out hnl OB).mono ?_;rintro ev w2 ⟨rfl,hb2⟩;have Dw:=aB K1 (by omega) hb2;have ZR:=aH F1 (by omega) hb2;have K2a:=aB K2 hsz hb2;have ZT:=aH F2 hsz hb2;have HH2:=gO (HH.out.below hb2);have HB2:=gO (Below.trans HB1.out (hb2.mono HB1.out.size));have hsz2:w.heap.size+1<w2.heap.size:=gI hsz hb2.size;clear k10 k11 k12 k13 k14 hb2 K1 F1 K2 F2;have k10:=Dw 0;have k11:=Dw 1;have k12:=Dw 2;have k13:=Dw 3;have k14:=Dw 4;simp only[gB,gC,gD]at k10 k11 k12 k13 k14;go_wp2_with fail
 refine(yQ _ _ _ _ _ _ _ _ _ _ _ _ _ h w2 HH2.out HK.out OB).mono ?_;rintro ev w3 ⟨g,c,rfl,hs3,hg3,hb3⟩;have yZ:=aB Dw (by omega) hb3;have Dx:=aH ZR (by omega) hb3;have K2b:=gO (aB K2a hsz2 hb3);have ZU:=gO (aH ZT hsz2 hb3);have HS4:=gO (hs3.move (B:=w.heap.size) (show w.heap.size<w2.heap.size by omega) yZ Dx);have HB3:=gO (Below.trans HB2.out (hb3.mono HB2.out.size));clear k10 k11 k12 k13 k14 Dw ZR K2a ZT hs3 HH HH2 hg3;have k10:=yZ 0;have k11:=yZ 1;have k12:=yZ 2;have k13:=yZ 3;have k14:=yZ 4;have f10:=Dx 0;have f11:=Dx 1;have f12:=Dx 2;have f13:=Dx 3;have f14:=Dx 4;simp only[gB,gC,gD]at k10 k11 k12 k13 k14;unfold Hc.vals;go_wp2_with fail
 have EI:Hid (HS (((((w3.setCell ⟨w.heap.size,0,none⟩ (.slice c.az 2 c.cz)).setCell ⟨w.heap.size,1,none⟩ (.slice c.am 2 c.cm)).setCell ⟨w.heap.size,2,none⟩ (.int .i64 (h.aC:Int))).setCell ⟨w.heap.size,3,none⟩ (.slice c.al c.lc.length c.cl)).setCell ⟨w.heap.size,4,none⟩ (.slice c.av h.live.length c.cv)) w.heap.size (fun k=>k<w2.heap.size/\k≠w.heap.size) h c):=HS4;have hne1:w.heap.size+1≠w.heap.size:=by omega
 have XJ:=gO (aA (aA (aA (aA (aA K2b.out hne1 0 (.slice c.az 2 c.cz)) hne1 1 (.slice c.am 2 c.cm)) hne1 2 (.int .i64 (h.aC:Int))) hne1 3 (.slice c.al c.lc.length c.cl)) hne1 4 (.slice c.av h.live.length c.cv));have XK:=gO (aG (aG (aG (aG (aG ZU.out ⟨w.heap.size,0,none⟩ (.slice c.az 2 c.cz)) ⟨w.heap.size,1,none⟩ (.slice c.am 2 c.cm)) ⟨w.heap.size,2,none⟩ (.int .i64 (h.aC:Int))) ⟨w.heap.size,3,none⟩ (.slice c.al c.lc.length c.cl)) ⟨w.heap.size,4,none⟩ (.slice c.av h.live.length c.cv));have hle0:w.heap.size<=w.heap.size:=Nat.le_refl _;have HB4:=gO (Below.setCell (Below.setCell (Below.setCell (Below.setCell (Below.setCell HB3.out (show w.heap.size<=(⟨w.heap.size,0,none⟩:Addr).block from hle0) (.slice c.az 2 c.cz)) (show w.heap.size<=(⟨w.heap.size,1,none⟩:Addr).block from hle0) (.slice c.am 2 c.cm)) (show w.heap.size<=(⟨w.heap.size,2,none⟩:Addr).block from hle0) (.int .i64 (h.aC:Int))) (show w.heap.size<=(⟨w.heap.size,3,none⟩:Addr).block from hle0) (.slice c.al c.lc.length c.cl)) (show w.heap.size<=(⟨w.heap.size,4,none⟩:Addr).block from hle0) (.slice c.av h.live.length c.cv));have oV:w.heap.size+1<(((((w3.setCell ⟨w.heap.size,0,none⟩ (.slice c.az 2 c.cz)).setCell ⟨w.heap.size,1,none⟩ (.slice c.am 2 c.cm)).setCell ⟨w.heap.size,2,none⟩ (.int .i64 (h.aC:Int))).setCell ⟨w.heap.size,3,none⟩ (.slice c.al c.lc.length c.cl)).setCell ⟨w.heap.size,4,none⟩ (.slice c.av h.live.length c.cv)).heap.size:=by have:=hb3.size;simp;omega
 clear k10 k11 k12 k13 k14 f10 f11 f12 f13 f14 yZ Dx K2b ZU HS4 hb3 HB3;generalize (((((w3.setCell _ _).setCell _ _).setCell _ _).setCell _ _).setCell _ _)=w4 at*;have hX1:(fun k=>k<w2.heap.size/\k≠w.heap.size) (w.heap.size+1):=⟨hsz2,hne1⟩
 refine(KO w.heap.size (fun k=>k<w2.heap.size/\k≠w.heap.size) h c w4 EI.out HK.out).mono ?_;rintro ev w5 ⟨rfl,⟨c5,hs5⟩,sf5⟩;have K5:=sf5.box XJ.out oV hX1;have F5:=sf5.XC XK.out oV hX1;have HB5:=gO (Safe.after HB4.out sf5 (B:=w.heap.size) (fun k hk=>⟨by omega,by omega⟩) (by omega));obtain⟨q0,q1,q2,q3,q4⟩:=hs5.words;have nP:=gO (((((hs5.far hX1 0 (.slice c5.az 2 c5.cz)).far hX1 1 (.slice c5.am 2 c5.cm)).far hX1 2 (.int .i64 (h.drain.aC:Int))).far hX1 3 (.slice c5.al c5.lc.length c5.cl)).far hX1 4 (.slice c5.av h.drain.live.length c5.cv));have hle1:w.heap.size<=w.heap.size+1:=Nat.le_succ _;have jF:=gO (Below.setCell (Below.setCell (Below.setCell (Below.setCell (Below.setCell HB5.out (show w.heap.size<=(⟨w.heap.size+1,0,none⟩:Addr).block from hle1) (.slice c5.az 2 c5.cz)) (show w.heap.size<=(⟨w.heap.size+1,1,none⟩:Addr).block from hle1) (.slice c5.am 2 c5.cm)) (show w.heap.size<=(⟨w.heap.size+1,2,none⟩:Addr).block from hle1) (.int .i64 (h.drain.aC:Int))) (show w.heap.size<=(⟨w.heap.size+1,3,none⟩:Addr).block from hle1) (.slice c5.al c5.lc.length c5.cl)) (show w.heap.size<=(⟨w.heap.size+1,4,none⟩:Addr).block from hle1) (.slice c5.av h.drain.live.length c5.cv));have KX:=aI (aI (aI (aI (aI K5 0 (.slice c5.az 2 c5.cz)) 1 (.slice c5.am 2 c5.cm)) 2 (.int .i64 (h.drain.aC:Int))) 3 (.slice c5.al c5.lc.length c5.cl)) 4 (.slice c5.av h.drain.live.length c5.cv);have k10:=K5 0;have k11:=K5 1;have k12:=K5 2;have k13:=K5 3;have k14:=K5 4;have f10:=F5 0;have f11:=F5 1;have f12:=F5 2;have f13:=F5 3;have f14:=F5 4;simp only[gB,gC,gD]at k10 k11 k12 k13 k14;clear hs5 sf5 EI XJ XK HB4;go_wp2
 generalize (((((w5.setCell _ _).setCell _ _).setCell _ _).setCell _ _).setCell _ _)=wx at*;change ∀o,wx.cell? ⟨w.heap.size+1,o,none⟩=(#[.slice c5.az 2 c5.cz,.slice c5.am 2 c5.cm,.int .i64 (h.drain.aC:Int),.slice c5.al c5.lc.length c5.cl,.slice c5.av h.drain.live.length c5.cv]:Array Value)[o]? at KX;refine bodyPost_ret (v:= .tuple #[.agg #[.slice c5.az 2 c5.cz,.slice c5.am 2 c5.cm,.int .i64 (h.drain.aC:Int),.slice c5.al c5.lc.length c5.cl,.slice c5.av h.drain.live.length c5.cv],.int .i64 0]) (by simp[results,Tryz.results48,go_sem,KX]) rfl ⟨c5,rfl,nP.out.r.sub (fun k hk=>⟨by omega,by omega⟩),jF.out⟩
end
section
open Go.RowKit
theorem VY (flags:Nat):pO flags<3:=by unfold pO;split <;> (try split) <;> omega
set_option maxHeartbeats 8000000 in
set_option maxRecDepth 100000 in
theorem FZ (az am al av:Option Addr)(cz cm cl cv nl nv:Nat)(y0 y1:Zc)(lc:List Lc)(h:Hp)(cpu order flags:Nat)(w:World)(hh:HAt w az am al av nl nv y0 y1 lc h)(hk:dZ h)(hnl:nl<=1000)(OB:nv<=1000)(hc:cpu<h.aC)(hor:order<=4)(hf:flags<=15)(hff:¬(flags/2%2=1/\flags/4%2=1))(ho:vT w):
 Calls Tryz.prog 61 #[.agg #[.slice az 2 cz,.slice am 2 cm,.int .i64 h.aC,.slice al nl cl,.slice av nv cv],.int .i64 cpu,.int .i64 order,.int .i64 flags] w fun ev w'=>Below w.heap.size w w'/\((h.alloc cpu order (pO flags) (decide (flags/8%2=1)) (decide (flags%2=1))=none/\ev= .returned (.tuple #[.agg #[.slice none 0 0,.slice none 0 0,.int .i64 0,.slice none 0 0,.slice none 0 0],.int .i64 0,.int .i64 6]))∨(∃(h':Hp) (a:Nat) (c':Hc),h.alloc cpu order (pO flags) (decide (flags/8%2=1)) (decide (flags%2=1))=some (h',a)/\ev= .returned (.tuple #[.agg (c'.vals h'),.int .i64 (a:Nat),.int .i64 0])/\kU w' w.heap.size h' c')):=by
 obtain⟨K1,K2,F1,F2,hsz,hbw⟩:=boxes2 w #[.slice az 2 cz,.slice am 2 cm,.int .i64 (h.aC:Int),.slice al nl cl,.slice av nv cv] 44 #[.slice none 0 0,.slice none 0 0,.int .i64 0,.slice none 0 0,.slice none 0 0] 44;have HH:=gO (hh.below hbw);have HK:=gO hk;have HB1:=gO hbw;have HO:=gO ho;have HLV:Hid (h.live.length<=1000):=by unfold Hid;rw[hh.nv];exact OB
 have h0w:=ho.sz;have k10:=K1 0;have k11:=K1 1;have k12:=K1 2;have k13:=K1 3;have k14:=K1 4;simp only[gB,gC,gD]at k10 k11 k12 k13 k14;clear hh hk hbw ho;go_enter Tryz.func61,Tryz.ntmps61
 go_wp2_with fail
 generalize (w.alloc _).alloc _=w1 at*;refine(vX _ _ _ _ _ _ _ _ _ _ _ _ _ h w1 HH.out HK.out hnl OB).mono ?_;rintro ev w2 ⟨rfl,hb2⟩;have Dw:=aB K1 (by omega) hb2;have ZR:=aH F1 (by omega) hb2;have K2a:=aB K2 hsz hb2;have ZT:=aH F2 hsz hb2;have HH2:=gO (HH.out.below hb2);have HB2:=gO (Below.trans HB1.out (hb2.mono HB1.out.size));have hsz2:w.heap.size+1<w2.heap.size:=gI hsz hb2.size;clear k10 k11 k12 k13 k14 hb2 K1 F1 K2 F2;have k10:=Dw 0;have k11:=Dw 1;have k12:=Dw 2;have k13:=Dw 3;have k14:=Dw 4;simp only[gB,gC,gD]at k10 k11 k12 k13 k14;have d1:decide ((cpu:Int)<0)=false:=decide_eq_false (by omega);have d2:decide (h.aC<=cpu)=false:=decide_eq_false (by omega);have d3:decide ((order:Int)<0)=false:=decide_eq_false (by omega);have d4:decide ((4:Int)<order)=false:=decide_eq_false (by omega);go_wp2_with fail
 refine(RZ flags w2 hf hff).mono ?_;rintro ev _ ⟨rfl,rfl⟩;go_wp2_with fail
 refine(yQ _ _ _ _ _ _ _ _ _ _ _ _ _ h w2 HH2.out HK.out OB).mono ?_;rintro ev w3 ⟨g,c,rfl,hs3,hg3,hb3⟩;have yZ:=aB Dw (by omega) hb3;have Dx:=aH ZR (by omega) hb3;have K2b:=gO (aB K2a hsz2 hb3);have ZU:=gO (aH ZT hsz2 hb3);have HS4:=gO (hs3.move (B:=w.heap.size) (show w.heap.size<w2.heap.size by omega) yZ Dx);have HB3:=gO (Below.trans HB2.out (hb3.mono HB2.out.size));clear k10 k11 k12 k13 k14 Dw ZR K2a ZT hs3 HH HH2 hg3;have k10:=yZ 0;have k11:=yZ 1;have k12:=yZ 2;have k13:=yZ 3;have k14:=yZ 4;have f10:=Dx 0;have f11:=Dx 1;have f12:=Dx 2;have f13:=Dx 3;have f14:=Dx 4;simp only[gB,gC,gD]at k10 k11 k12 k13 k14;unfold Hc.vals;go_wp2_with fail
 have EI:Hid (HS (((((w3.setCell ⟨w.heap.size,0,none⟩ (.slice c.az 2 c.cz)).setCell ⟨w.heap.size,1,none⟩ (.slice c.am 2 c.cm)).setCell ⟨w.heap.size,2,none⟩ (.int .i64 (h.aC:Int))).setCell ⟨w.heap.size,3,none⟩ (.slice c.al c.lc.length c.cl)).setCell ⟨w.heap.size,4,none⟩ (.slice c.av h.live.length c.cv)) w.heap.size (fun k=>k<w2.heap.size/\k≠w.heap.size) h c):=HS4;have hne1:w.heap.size+1≠w.heap.size:=by omega
 have XJ:=gO (aA (aA (aA (aA (aA K2b.out hne1 0 (.slice c.az 2 c.cz)) hne1 1 (.slice c.am 2 c.cm)) hne1 2 (.int .i64 (h.aC:Int))) hne1 3 (.slice c.al c.lc.length c.cl)) hne1 4 (.slice c.av h.live.length c.cv));have XK:=gO (aG (aG (aG (aG (aG ZU.out ⟨w.heap.size,0,none⟩ (.slice c.az 2 c.cz)) ⟨w.heap.size,1,none⟩ (.slice c.am 2 c.cm)) ⟨w.heap.size,2,none⟩ (.int .i64 (h.aC:Int))) ⟨w.heap.size,3,none⟩ (.slice c.al c.lc.length c.cl)) ⟨w.heap.size,4,none⟩ (.slice c.av h.live.length c.cv));have hle0:w.heap.size<=w.heap.size:=Nat.le_refl _;have HB4:=gO (Below.setCell (Below.setCell (Below.setCell (Below.setCell (Below.setCell HB3.out (show w.heap.size<=(⟨w.heap.size,0,none⟩:Addr).block from hle0) (.slice c.az 2 c.cz)) (show w.heap.size<=(⟨w.heap.size,1,none⟩:Addr).block from hle0) (.slice c.am 2 c.cm)) (show w.heap.size<=(⟨w.heap.size,2,none⟩:Addr).block from hle0) (.int .i64 (h.aC:Int))) (show w.heap.size<=(⟨w.heap.size,3,none⟩:Addr).block from hle0) (.slice c.al c.lc.length c.cl)) (show w.heap.size<=(⟨w.heap.size,4,none⟩:Addr).block from hle0) (.slice c.av h.live.length c.cv));have oV:w.heap.size+1<(((((w3.setCell ⟨w.heap.size,0,none⟩ (.slice c.az 2 c.cz)).setCell ⟨w.heap.size,1,none⟩ (.slice c.am 2 c.cm)).setCell ⟨w.heap.size,2,none⟩ (.int .i64 (h.aC:Int))).setCell ⟨w.heap.size,3,none⟩ (.slice c.al c.lc.length c.cl)).setCell ⟨w.heap.size,4,none⟩ (.slice c.av h.live.length c.cv)).heap.size:=by have:=hb3.size;simp;omega
 clear k10 k11 k12 k13 k14 f10 f11 f12 f13 f14 yZ Dx K2b ZU HS4 hb3 HB3;generalize (((((w3.setCell _ _).setCell _ _).setCell _ _).setCell _ _).setCell _ _)=w4 at*;have hX1:(fun k=>k<w2.heap.size/\k≠w.heap.size) (w.heap.size+1):=⟨hsz2,hne1⟩
 have ht3:=VY flags;obtain⟨t,ht⟩:∃t,pO flags=t:=⟨_,rfl⟩
 rw[ht]at ht3 ⊢;have HTT:=gO ht;clear ht;have hX0:(fun k=>k<w2.heap.size/\k≠w.heap.size) 1:=⟨by omega,by omega⟩
 have HO4:Hid (vT w4):=HO.out.mono HB4.out (Nat.le_refl _);refine(Dv w.heap.size cpu order t flags (fun k=>k<w2.heap.size/\k≠w.heap.size) h c w4 EI.out HK.out hc hor ht3 hf HO4.out hX0).mono ?_;rintro ev w5 (⟨hno,rfl,hs5,sf5⟩ | ⟨h',a,c5,hso,rfl,hs5,sf5⟩)
 ·have HN1:=gO hno;have HS5:=gO hs5;have SF5:=gO sf5;clear hno hs5 sf5;obtain⟨hkd,_,hsd,hld,hvd⟩:=HK.out.drain;have HKD:=gO hkd;have hcd:cpu<h.drain.aC:=by rw[hsd.aC];exact hc
  have HVD:=gO hvd;clear hkd hsd hld hvd;go_wp2_with fail
  refine(KO w.heap.size (fun k=>k<w2.heap.size/\k≠w.heap.size) h c w5 HS5.out HK.out).mono ?_;rintro ev w6 ⟨rfl,⟨c6,hs6⟩,sf6⟩;have HS6:=gO hs6;have SF6:=gO (SF5.out.trans sf6);clear hs6 sf6 HS5 SF5;have HO6:Hid (vT w6):=HO4.out.safe SF6.out hX0;go_wp2_with fail
  refine(Dv w.heap.size cpu order t flags (fun k=>k<w2.heap.size/\k≠w.heap.size) h.drain c6 w6 HS6.out HKD.out hcd hor ht3 hf HO6.out hX0).mono ?_;rintro ev w7 (⟨hno,rfl,hs7,sf7⟩ | ⟨h',a,c5,hso,rfl,hs7,sf7⟩)
  ·have HN2:=gO hno;have SF9:=gO (SF6.out.trans sf7);have K9:=SF9.out.box XJ.out oV hX1;have F9:=SF9.out.XC XK.out oV hX1;have HB9:=gO (Safe.after HB4.out SF9.out (B:=w.heap.size) (fun k hk=>⟨by omega,by omega⟩) (by omega));have hle1:w.heap.size<=w.heap.size+1:=Nat.le_succ _;have jF:=gO (Below.setCell (Below.setCell (Below.setCell (Below.setCell (Below.setCell HB9.out (show w.heap.size<=(⟨w.heap.size+1,0,none⟩:Addr).block from hle1) (.slice none 0 0)) (show w.heap.size<=(⟨w.heap.size+1,1,none⟩:Addr).block from hle1) (.slice none 0 0)) (show w.heap.size<=(⟨w.heap.size+1,2,none⟩:Addr).block from hle1) (.int .i64 0)) (show w.heap.size<=(⟨w.heap.size+1,3,none⟩:Addr).block from hle1) (.slice none 0 0)) (show w.heap.size<=(⟨w.heap.size+1,4,none⟩:Addr).block from hle1) (.slice none 0 0));have KX:=(aI (aI (aI (aI (aI K9 0 (.slice none 0 0)) 1 (.slice none 0 0)) 2 (.int .i64 0)) 3 (.slice none 0 0)) 4 (.slice none 0 0))
   have k10:=K9 0;have k11:=K9 1;have k12:=K9 2;have k13:=K9 3;have k14:=K9 4;have f10:=F9 0;have f11:=F9 1;have f12:=F9 2;have f13:=F9 3;have f14:=F9 4;simp only[gB,gC,gD]at k10 k11 k12 k13 k14;have HAN:Hid (h.alloc cpu order t (decide (flags/8%2=1)) (decide (flags%2=1))=none):=by
    unfold Hid Hp.alloc;rw[HN1.out];simp only;rw[HN2.out]
   clear hno hs7 sf7;go_wp2
   generalize (((((w7.setCell _ _).setCell _ _).setCell _ _).setCell _ _).setCell _ _)=wx at*;change ∀o,wx.cell? ⟨w.heap.size+1,o,none⟩=(#[.slice none 0 0,.slice none 0 0,.int .i64 0,.slice none 0 0,.slice none 0 0]:Array Value)[o]? at KX;refine bodyPost_ret (v:= .tuple #[.agg #[.slice none 0 0,.slice none 0 0,.int .i64 0,.slice none 0 0,.slice none 0 0],.int .i64 0,.int .i64 6]) (by simp[results,Tryz.results61,go_sem,KX]) rfl ⟨jF.out,.inl ⟨by rw[HTT.out];exact HAN.out,rfl⟩⟩
  ·have hT:=HKD.out.attempt hcd hor ht3 hso;have HT:=gO hT;have HS5:=gO hs7;have SF5:=gO (SF6.out.trans sf7);have HNV:Hid (h'.live.length<=1000):=by unfold Hid;rw[hT.live,HVD.out];exact HLV.out
   have Au:Hid (h.alloc cpu order t (decide (flags/8%2=1)) (decide (flags%2=1))=some ({h' with live:=bF h'.live ⟨a,order,t⟩},a)):=by
    unfold Hid Hp.alloc;rw[HN1.out];simp only;rw[hso]
   clear hs7 sf7 hso hT HS6 SF6;have VZ:h'.live.length<=1000:=HNV.out;have ha5:a<=1000:=by have:=HT.out.fit.2.2.1;omega
   obtain⟨q0,q1,q2,q3,q4⟩:=HS5.out.words;have hB5:w.heap.size<w7.heap.size:=HS5.out.r.gs;go_wp2_with fail
   refine(Ih _ _ _ _ _ _ _ _ _ _ _ _ _ h' a w7 HS5.out.r.at HT.out.ok VZ ha5).mono ?_;rintro ev YD ⟨rfl,hb7⟩;have HS6:=gO (HS5.out.below hb7);have SF6:=gO (SF5.out.then hb7);clear q0 q1 q2 q3 q4 hB5 hb7;obtain⟨q0,q1,q2,q3,q4⟩:=HS6.out.words;have aGl:w.heap.size<YD.heap.size:=HS6.out.r.gs;obtain⟨I,hI⟩:∃I,lb h'.live a=I:=⟨_,rfl⟩
   have SX:I<=h'.live.length:=by rw[<- hI];exact lD _ _
   have HI:=gO hI;rw[hI];clear hI;have HS7:=gO (HS6.out.below (aF YD (.cells #[.int .i64 (a:Int),.int .i64 (order:Int),.int .i64 (t:Int)] 63)));have SF7:=gO (SF6.out.then (aF YD (.cells #[.int .i64 (a:Int),.int .i64 (order:Int),.int .i64 (t:Int)] 63)));have XG:Hid ((YD.alloc (.cells #[.int .i64 (a:Int),.int .i64 (order:Int),.int .i64 (t:Int)] 63)).heap[YD.heap.size]? =some (.cells #[.int .i64 (a:Int),.int .i64 (order:Int),.int .i64 (t:Int)] 63 (0,0))):=heap_alloc_new YD _;have XH:Hid (some YD.heap.size≠Value.ownBlock (.slice c5.av h'.live.length c5.cv)):=fun e=>by
    have:=(HS6.out.r.own.lt _ (jM c5 h') _ e.symm).2;omega
   go_wp2_with fail
   generalize YD.alloc _=w8 at*;refine(Dy 0 c5.av h'.live.length c5.cv YD.heap.size I h'.live ⟨a,order,t⟩ w8 HS7.out.r.lv SX VZ (Nat.zero_le _) XG.out XH.out).mono ?_;rintro ev w9x ⟨rO,cv',rfl,ho8,hg8,hl8⟩;have hput:h'.live.take I++⟨a,order,t⟩::h'.live.drop I=bF h'.live ⟨a,order,t⟩:=by unfold bF;rw[HI.out]
   have hpl:(bF h'.live ⟨a,order,t⟩).length=h'.live.length+1:=by rw[<- hput];simp;omega
   rw[hput]at ho8;obtain⟨hs9,sf9⟩:=HS7.out.away hg8 (rO:=rO) (cv':=cv') (v':=bF h'.live ⟨a,order,t⟩) (by rw[hpl];exact ho8) (by rw[hpl];exact hl8);have hG7:w.heap.size<w8.heap.size:=HS7.out.r.gs;have wF:Hid (some w.heap.size≠Value.ownBlock (.slice c5.av h'.live.length c5.cv)):=fun e=>(HS7.out.r.og _ (jM c5 h') _ e.symm).1 rfl
   have r4:=(bT HS7.out.k hG7 hg8 wF.out 4).trans (show _=some (.slice c5.av h'.live.length c5.cv)from rfl);have g4:=bU HS7.out.fz hG7 hg8 wF.out 4;rw[hpl]at hs9 sf9;have HS9:=gO hs9;have SF9:=gO (SF7.out.trans sf9);obtain⟨p0,p1,p2,p3,p4⟩:=hs9.words;rw[hpl]at p4;have K9:=SF9.out.box XJ.out oV hX1;have F9:=SF9.out.XC XK.out oV hX1;have HB9:=gO (Safe.after HB4.out SF9.out (B:=w.heap.size) (fun k hk=>⟨by omega,by omega⟩) (by omega));have hle1:w.heap.size<=w.heap.size+1:=Nat.le_succ _;have nP:=gO (((((HS9.out.far hX1 0 (.slice c5.az 2 c5.cz)).far hX1 1 (.slice c5.am 2 c5.cm)).far hX1 2 (.int .i64 (h'.aC:Int))).far hX1 3 (.slice c5.al c5.lc.length c5.cl)).far hX1 4 (.slice rO (h'.live.length+1) cv'));have jF:=gO (Below.setCell (Below.setCell (Below.setCell (Below.setCell (Below.setCell HB9.out (show w.heap.size<=(⟨w.heap.size+1,0,none⟩:Addr).block from hle1) (.slice c5.az 2 c5.cz)) (show w.heap.size<=(⟨w.heap.size+1,1,none⟩:Addr).block from hle1) (.slice c5.am 2 c5.cm)) (show w.heap.size<=(⟨w.heap.size+1,2,none⟩:Addr).block from hle1) (.int .i64 (h'.aC:Int))) (show w.heap.size<=(⟨w.heap.size+1,3,none⟩:Addr).block from hle1) (.slice c5.al c5.lc.length c5.cl)) (show w.heap.size<=(⟨w.heap.size+1,4,none⟩:Addr).block from hle1) (.slice rO (h'.live.length+1) cv'));have KX:=(aI (aI (aI (aI (aI K9 0 (.slice c5.az 2 c5.cz)) 1 (.slice c5.am 2 c5.cm)) 2 (.int .i64 (h'.aC:Int))) 3 (.slice c5.al c5.lc.length c5.cl)) 4 (.slice rO (h'.live.length+1) cv'))
   have k10:=K9 0;have k11:=K9 1;have k12:=K9 2;have k13:=K9 3;have k14:=K9 4;have f10:=F9 0;have f11:=F9 1;have f12:=F9 2;have f13:=F9 3;have f14:=F9 4;simp only[gB,gC,gD]at k10 k11 k12 k13 k14;have HPL:=gO hpl;clear hs9 sf9 ho8 hg8 hl8 HS9 SF9 HS7 SF7 hput hpl HB9;go_wp2
   generalize ((((((w9x.setCell _ _).setCell _ _).setCell _ _).setCell _ _).setCell _ _).setCell _ _)=wx at*;change ∀o,wx.cell? ⟨w.heap.size+1,o,none⟩=(#[.slice c5.az 2 c5.cz,.slice c5.am 2 c5.cm,.int .i64 (h'.aC:Int),.slice c5.al c5.lc.length c5.cl,.slice rO (h'.live.length+1) cv']:Array Value)[o]? at KX;refine bodyPost_ret (v:= .tuple #[.agg #[.slice c5.az 2 c5.cz,.slice c5.am 2 c5.cm,.int .i64 (h'.aC:Int),.slice c5.al c5.lc.length c5.cl,.slice rO (h'.live.length+1) cv'],.int .i64 (a:Int),.int .i64 0]) (by simp[results,Tryz.results61,go_sem,KX]) rfl ⟨jF.out,.inr ⟨_,a,_,by rw[HTT.out];exact Au.out,?_,nP.out.r.sub (fun k hk=>⟨by omega,by omega⟩)⟩⟩;unfold Hc.vals;simp only[HPL.out]
 ·have hT:=HK.out.attempt hc hor ht3 hso;have HT:=gO hT;have HS5:=gO hs5;have SF5:=gO sf5;have HNV:Hid (h'.live.length<=1000):=by unfold Hid;rw[hT.live];exact HLV.out
  have Au:Hid (h.alloc cpu order t (decide (flags/8%2=1)) (decide (flags%2=1))=some ({h' with live:=bF h'.live ⟨a,order,t⟩},a)):=by
   unfold Hid Hp.alloc;rw[hso]
  clear hs5 sf5 hso hT;have VZ:h'.live.length<=1000:=HNV.out;have ha5:a<=1000:=by have:=HT.out.fit.2.2.1;omega
  obtain⟨q0,q1,q2,q3,q4⟩:=HS5.out.words;have hB5:w.heap.size<w5.heap.size:=HS5.out.r.gs;go_wp2_with fail
  refine(Ih _ _ _ _ _ _ _ _ _ _ _ _ _ h' a w5 HS5.out.r.at HT.out.ok VZ ha5).mono ?_;rintro ev w6 ⟨rfl,hb6⟩;have HS6:=gO (HS5.out.below hb6);have SF6:=gO (SF5.out.then hb6);clear q0 q1 q2 q3 q4 hB5 hb6;obtain⟨q0,q1,q2,q3,q4⟩:=HS6.out.words;have aGl:w.heap.size<w6.heap.size:=HS6.out.r.gs;obtain⟨I,hI⟩:∃I,lb h'.live a=I:=⟨_,rfl⟩
  have SX:I<=h'.live.length:=by rw[<- hI];exact lD _ _
  have HI:=gO hI;rw[hI];clear hI;have HS7:=gO (HS6.out.below (aF w6 (.cells #[.int .i64 (a:Int),.int .i64 (order:Int),.int .i64 (t:Int)] 63)));have SF7:=gO (SF6.out.then (aF w6 (.cells #[.int .i64 (a:Int),.int .i64 (order:Int),.int .i64 (t:Int)] 63)));have XG:Hid ((w6.alloc (.cells #[.int .i64 (a:Int),.int .i64 (order:Int),.int .i64 (t:Int)] 63)).heap[w6.heap.size]? =some (.cells #[.int .i64 (a:Int),.int .i64 (order:Int),.int .i64 (t:Int)] 63 (0,0))):=heap_alloc_new w6 _;have XH:Hid (some w6.heap.size≠Value.ownBlock (.slice c5.av h'.live.length c5.cv)):=fun e=>by
   have:=(HS6.out.r.own.lt _ (jM c5 h') _ e.symm).2;omega
  go_wp2_with fail
  generalize w6.alloc _=w7 at*;refine(Dy 0 c5.av h'.live.length c5.cv w6.heap.size I h'.live ⟨a,order,t⟩ w7 HS7.out.r.lv SX VZ (Nat.zero_le _) XG.out XH.out).mono ?_;rintro ev w8 ⟨rO,cv',rfl,ho8,hg8,hl8⟩;have hput:h'.live.take I++⟨a,order,t⟩::h'.live.drop I=bF h'.live ⟨a,order,t⟩:=by unfold bF;rw[HI.out]
  have hpl:(bF h'.live ⟨a,order,t⟩).length=h'.live.length+1:=by rw[<- hput];simp;omega
  rw[hput]at ho8;obtain⟨hs9,sf9⟩:=HS7.out.away hg8 (rO:=rO) (cv':=cv') (v':=bF h'.live ⟨a,order,t⟩) (by rw[hpl];exact ho8) (by rw[hpl];exact hl8);have hG7:w.heap.size<w7.heap.size:=HS7.out.r.gs;have wF:Hid (some w.heap.size≠Value.ownBlock (.slice c5.av h'.live.length c5.cv)):=fun e=>(HS7.out.r.og _ (jM c5 h') _ e.symm).1 rfl
  have r4:=(bT HS7.out.k hG7 hg8 wF.out 4).trans (show _=some (.slice c5.av h'.live.length c5.cv)from rfl);have g4:=bU HS7.out.fz hG7 hg8 wF.out 4;rw[hpl]at hs9 sf9;have HS9:=gO hs9;have SF9:=gO (SF7.out.trans sf9);obtain⟨p0,p1,p2,p3,p4⟩:=hs9.words;rw[hpl]at p4;have K9:=SF9.out.box XJ.out oV hX1;have F9:=SF9.out.XC XK.out oV hX1;have HB9:=gO (Safe.after HB4.out SF9.out (B:=w.heap.size) (fun k hk=>⟨by omega,by omega⟩) (by omega));have hle1:w.heap.size<=w.heap.size+1:=Nat.le_succ _;have nP:=gO (((((HS9.out.far hX1 0 (.slice c5.az 2 c5.cz)).far hX1 1 (.slice c5.am 2 c5.cm)).far hX1 2 (.int .i64 (h'.aC:Int))).far hX1 3 (.slice c5.al c5.lc.length c5.cl)).far hX1 4 (.slice rO (h'.live.length+1) cv'));have jF:=gO (Below.setCell (Below.setCell (Below.setCell (Below.setCell (Below.setCell HB9.out (show w.heap.size<=(⟨w.heap.size+1,0,none⟩:Addr).block from hle1) (.slice c5.az 2 c5.cz)) (show w.heap.size<=(⟨w.heap.size+1,1,none⟩:Addr).block from hle1) (.slice c5.am 2 c5.cm)) (show w.heap.size<=(⟨w.heap.size+1,2,none⟩:Addr).block from hle1) (.int .i64 (h'.aC:Int))) (show w.heap.size<=(⟨w.heap.size+1,3,none⟩:Addr).block from hle1) (.slice c5.al c5.lc.length c5.cl)) (show w.heap.size<=(⟨w.heap.size+1,4,none⟩:Addr).block from hle1) (.slice rO (h'.live.length+1) cv'));have KX:=(aI (aI (aI (aI (aI K9 0 (.slice c5.az 2 c5.cz)) 1 (.slice c5.am 2 c5.cm)) 2 (.int .i64 (h'.aC:Int))) 3 (.slice c5.al c5.lc.length c5.cl)) 4 (.slice rO (h'.live.length+1) cv'))
  have k10:=K9 0;have k11:=K9 1;have k12:=K9 2;have k13:=K9 3;have k14:=K9 4;have f10:=F9 0;have f11:=F9 1;have f12:=F9 2;have f13:=F9 3;have f14:=F9 4;simp only[gB,gC,gD]at k10 k11 k12 k13 k14;have HPL:=gO hpl;clear hs9 sf9 ho8 hg8 hl8 HS9 SF9 HS7 SF7 hput hpl HB9;go_wp2
  generalize ((((((w8.setCell _ _).setCell _ _).setCell _ _).setCell _ _).setCell _ _).setCell _ _)=wx at*;change ∀o,wx.cell? ⟨w.heap.size+1,o,none⟩=(#[.slice c5.az 2 c5.cz,.slice c5.am 2 c5.cm,.int .i64 (h'.aC:Int),.slice c5.al c5.lc.length c5.cl,.slice rO (h'.live.length+1) cv']:Array Value)[o]? at KX;refine bodyPost_ret (v:= .tuple #[.agg #[.slice c5.az 2 c5.cz,.slice c5.am 2 c5.cm,.int .i64 (h'.aC:Int),.slice c5.al c5.lc.length c5.cl,.slice rO (h'.live.length+1) cv'],.int .i64 (a:Int),.int .i64 0]) (by simp[results,Tryz.results61,go_sem,KX]) rfl ⟨jF.out,.inr ⟨_,a,_,by rw[HTT.out];exact Au.out,?_,nP.out.r.sub (fun k hk=>⟨by omega,by omega⟩)⟩⟩;unfold Hc.vals;simp only[HPL.out]
end
section
open Go.RowKit
section
variable {W W' W1 W2:World}{G:Nat}{X Y:Nat->Prop}{s s':Sy}{v v':Sc}
theorem SS.aGA (hs:SS W G X s v)(hb:Below W.heap.size W W1){h':Hp}{hc':Hc}(hn:kU W1 W.heap.size h' hc'):
 SS (((((W1.setCell ⟨G,1,none⟩ (.slice hc'.az 2 hc'.cz)).setCell ⟨G,2,none⟩ (.slice hc'.am 2 hc'.cm)).setCell ⟨G,3,none⟩ (.int .i64 (h'.aC:Int))).setCell ⟨G,4,none⟩ (.slice hc'.al hc'.lc.length hc'.cl)).setCell ⟨G,5,none⟩ (.slice hc'.av h'.live.length hc'.cv)) G X {s with h:=h'} {v with hc:=hc'}/\Safe X W (((((W1.setCell ⟨G,1,none⟩ (.slice hc'.az 2 hc'.cz)).setCell ⟨G,2,none⟩ (.slice hc'.am 2 hc'.cm)).setCell ⟨G,3,none⟩ (.int .i64 (h'.aC:Int))).setCell ⟨G,4,none⟩ (.slice hc'.al hc'.lc.length hc'.cl)).setCell ⟨G,5,none⟩ (.slice hc'.av h'.live.length hc'.cv)):=by
 have h1:=hs.r.heap hb hn;have K0:=aB hs.k hs.r.hr.gs hb;have F0:=aH hs.fz hs.r.hr.gs hb;have K1:=aI K0 1 (.slice hc'.az 2 hc'.cz);have F1:=aG F0 ⟨G,1,none⟩ (.slice hc'.az 2 hc'.cz);have K2:=aI K1 2 (.slice hc'.am 2 hc'.cm);have F2:=aG F1 ⟨G,2,none⟩ (.slice hc'.am 2 hc'.cm);have K3:=aI K2 3 (.int .i64 (h'.aC:Int));have F3:=aG F2 ⟨G,3,none⟩ (.int .i64 (h'.aC:Int));have K4:=aI K3 4 (.slice hc'.al hc'.lc.length hc'.cl);have F4:=aG F3 ⟨G,4,none⟩ (.slice hc'.al hc'.lc.length hc'.cl);have K5:=aI K4 5 (.slice hc'.av h'.live.length hc'.cv);have F5:=aG F4 ⟨G,5,none⟩ (.slice hc'.av h'.live.length hc'.cv);unfold Sc.vals at K5;simp only[gE,gG,gH]at K5;exact⟨⟨(((((h1.fO 1 _).fO 2 _).fO 3 _).fO 4 _).fO 5 _),K5,F5⟩,((((((Safe.iM hb).set hs.r.hr.xg 1 _).set hs.r.hr.xg 2 _).set hs.r.hr.xg 3 _).set hs.r.hr.xg 4 _).set hs.r.hr.xg 5 _)⟩
end
end
section
def zz (j:Nat):Nat:=[1,2,4,8,16,32].getD j 0
def nY (n:Nat):Nat:=if n<=1 then 0 else if n<=2 then 1 else if n<=4 then 2 else if n<=8 then 3 else if n<=16 then 4 else 5
theorem mY {n:Nat}(h1:1<=n)(h2:n<=32):nY n<6/\n<=zz (nY n)/\zz (nY n)<2*n/\∀j,j<nY n->zz j<n:=by
 have key:∀(k:Nat),k<6->n<=zz k->zz k<2*n->(∀j,j<k->zz j<n)->nY n=k->nY n<6/\n<=zz (nY n)/\zz (nY n)<2*n/\∀j,j<nY n->zz j<n:=fun k a b c d e=>by rw[e];exact⟨a,b,c,d⟩
 have z0:zz 0=1:=rfl;have z1:zz 1=2:=rfl;have z2:zz 2=4:=rfl;have z3:zz 3=8:=rfl;have z4:zz 4=16:=rfl;have z5:zz 5=32:=rfl;have hall:∀k,k<=5->((∀j,j<k->zz j<n)↔(k=0∨zz (k-1)<n)):=fun k hk=>by
  obtain rfl | rfl | rfl | rfl | rfl | rfl:k=0∨k=1∨k=2∨k=3∨k=4∨k=5:=by omega
  ·exact⟨fun _=> .inl rfl,fun _ j hj=>by omega⟩
  all_goals
   refine⟨fun h=> .inr (h _ (by omega)),fun h j hj=> ?_⟩;rcases h with h | h
   ·omega
   ·simp only[Nat.reduceSub]at h;obtain rfl | rfl | rfl | rfl | rfl:j=0∨j=1∨j=2∨j=3∨j=4:=by omega
    all_goals omega
 unfold nY;split
 ·exact⟨by omega,by omega,by omega,fun j hj=>by omega⟩
 ·split
  ·exact⟨by omega,by omega,by omega,(hall 1 (by omega)).2 (.inr (by show zz 0<n;omega))⟩
  ·split
   ·exact⟨by omega,by omega,by omega,(hall 2 (by omega)).2 (.inr (by show zz 1<n;omega))⟩
   ·split
    ·exact⟨by omega,by omega,by omega,(hall 3 (by omega)).2 (.inr (by show zz 2<n;omega))⟩
    ·split
     ·exact⟨by omega,by omega,by omega,(hall 4 (by omega)).2 (.inr (by show zz 3<n;omega))⟩
     ·exact⟨by omega,by omega,by omega,(hall 5 (by omega)).2 (.inr (by show zz 4<n;omega))⟩
theorem aDR {j:Nat}(h:j<6):1<=zz j/\zz j<=32:=by
 obtain rfl | rfl | rfl | rfl | rfl | rfl:j=0∨j=1∨j=2∨j=3∨j=4∨j=5:=by omega
 all_goals decide
def mJ (n:Nat):Nat:=if n<=16 then 0 else if n<=32 then 1 else if n<=64 then 2 else if n<=128 then 3 else 4
theorem xG {n:Nat}(h1:33<=n)(h2:n<=256):2<=mJ n/\mJ n<=4/\n<=16*2^mJ n/\16*2^mJ n<2*n+16/\∀o,o<mJ n->16*2^o<n:=by
 unfold mJ;rw[if_neg (by omega),if_neg (by omega)];split
 ·refine⟨by omega,by omega,by omega,by omega,fun o ho=> ?_⟩;obtain rfl | rfl:o=0∨o=1:=by omega
  all_goals omega
 ·split
  ·refine⟨by omega,by omega,by omega,by omega,fun o ho=> ?_⟩;obtain rfl | rfl | rfl:o=0∨o=1∨o=2:=by omega
   all_goals omega
  ·refine⟨by omega,by omega,by omega,by omega,fun o ho=> ?_⟩;obtain rfl | rfl | rfl | rfl:o=0∨o=1∨o=2∨o=3:=by omega
   all_goals omega
end
section
open Go.RowKit
section
variable {W W' W1 W2:World}{G:Nat}{X Y:Nat->Prop}{s s':Sy}{v v':Sc}
theorem SS.aBE (hs:SS W G X s v){i:Nat}(hi:i<v.ys.length){y:Cc}(hy:v.ys[i]=y){l':List (List UInt8)}{a':Option Addr}{n' c':Nat}(hown:W2.ownsRow 0 9 1 (.slice a' n' c') n' (flat encS l'))(hg:W.grownBy W2 (qZ y).v.ownBlock)
 (hl:∀k,(Value.slice a' n' c').ownBlock=some k->(qZ y).v.ownBlock=some k∨W.heap.size<=k) {gc:Nat} (hgc:v.a2=some ⟨gc,0,none⟩):
 ∃v',SS (W2.setCell ⟨gc,i*6,none⟩ (.slice a' n' c')) G X (s.fH i {y.c with ns:=l'}) v'/\Safe X W (W2.setCell ⟨gc,i*6,none⟩ (.slice a' n' c'))/\v'.a2=v.a2:=by
 subst hy;have h:=hs.aCV hi hown hg hl hgc;exact⟨_,h.1,h.2,rfl⟩
theorem SR.aDT (hs:SR W G X s v){i:Nat}(hi:i<v.ys.length){y:Cc}(hy:v.ys[i]=y){gc:Nat}(hgc:v.a2=some ⟨gc,0,none⟩):(qZ y).v.ownBlock≠some gc:=fun e=>by
 subst hy;have h:=(hs.OA hi).off (i:=1) (j:=2) (by simp) (by simp) (by decide) gc (by show(l9 v).v.ownBlock=_;unfold l9;rw[hgc];rfl);exact h e
end
end
section
open Go.RowKit
section
variable {W W' W1 W2:World}{G:Nat}{X Y:Nat->Prop}{s s':Sy}{v v':Sc}
theorem SR.wAt (hs:SR W G X s v){a:Nat}(ha:a<s.w.length):∃g,v.a1=some ⟨g,0,none⟩/\g<W.heap.size/\g≠G/\¬X g/\W.cell? ⟨g,a,none⟩=some (vI s.w[a])/\W.frozen? ⟨g,a,none⟩=false:=by
 have hw:(tY v s).on W 0:=hs.own.each _ (nX v s);have hx:a<(tY v s).xs.length:=by show a<(s.w.map vI).length;rw[List.length_map];exact ha
 obtain⟨g,h1,_,h2,h3,h4⟩:=oI hw a hx;have h5:=hs.og _ (nX v s) g (by show(tY v s).v.ownBlock=_;unfold tY;rw[h1];rfl);refine⟨g,h1,h2,h5.1,h5.2,?_,h4⟩;rw[h3];have h6:(s.w.map vI)[a]? =some (vI s.w[a]):=by rw[List.getElem?_map,gJ ha];rfl
 rw[<- h6];exact(gJ hx).symm
theorem SS.setW (hs:SS W G X s v){g:Nat}(hg:v.a1=some ⟨g,0,none⟩)(a:Nat)(u:Int):
 SS (W.setCell ⟨g,a,none⟩ (vI u)) G X {s with w:=s.w.set a u} v/\Safe X W (W.setCell ⟨g,a,none⟩ (vI u)):=by
 have hb:(tY v s).v.ownBlock=some g:=by unfold tY;rw[hg];rfl
 have h4:=hs.r.og _ (nX v s) g hb;have k:=hs.r.own.cell (i:=0) (by simp[Sc.rows]) (g:=g) (c:=v.c1) (by show(tY v s).v=_;unfold tY;rw[hg];rfl) a (vI u) rfl;have e1:({tY v s with xs:=(tY v s).xs.set a (vI u)}:Rs)=tY v {s with w:=s.w.set a u}:=by
  unfold tY;simp only[List.map_set]
 have k2:dJ (W.setCell ⟨g,a,none⟩ (vI u)) 0 (v.rows {s with w:=s.w.set a u}):=by
  have e2:v.rows {s with w:=s.w.set a u}=tY v {s with w:=s.w.set a u}::l9 v::v.ys.flatMap fP:=rfl;rw[e2,<- e1];exact k
 have hr:=hs.r.step (s':={s with w:=s.w.set a u}) (v':=v) (hs.r.BI (nX v s) hb a (vI u)) rfl rfl k2 (fun r hr' g' hg'=> .inl (by
  rcases List.mem_cons.1 hr' with rfl | hr'
  ·exact⟨tY v s,nX v s,hg'⟩
  ·exact⟨r,List.mem_cons_of_mem _ hr',hg'⟩)) hs.r.cy
 have hk:=hs.Vt h4.1 a (vI u);exact⟨⟨hr,hk.1,hk.2⟩,(Safe.refl X W).set h4.2 a (vI u)⟩
theorem SS.aEh (hs:SS W G X s v){i:Nat}(hi:i<v.ys.length){y:Cc}(hy:v.ys[i]=y){g:Nat}(hg:y.a2=some ⟨g,0,none⟩){k:Nat}(hk:k<y.c.sl.length){gw:Nat}(hgw:v.a1=some ⟨gw,0,none⟩)(a:Nat)(u h':Int){n':Nat}:
 SS (((W.setCell ⟨gw,a,none⟩ (vI u)).setCell ⟨g,k*3+2,none⟩ (vI h')).setCell ⟨g,k*3+1,none⟩ (vI n')) G X {s with w:=s.w.set a u,cs:=s.cs.set i {y.c with sl:=y.c.sl.set k ⟨y.c.sl[k].p,n',h'⟩}} (v.dN i {y with c:={y.c with sl:=y.c.sl.set k ⟨y.c.sl[k].p,n',h'⟩}})/\
 Safe X W (((W.setCell ⟨gw,a,none⟩ (vI u)).setCell ⟨g,k*3+2,none⟩ (vI h')).setCell ⟨g,k*3+1,none⟩ (vI n')):=by
 subst hy;have h0:=hs.setW hgw a u;have h1:=h0.1.Qs hi hg hk (x':=⟨v.ys[i].c.sl[k].p,v.ys[i].c.sl[k].n,h'⟩) (j:=2) (by decide) (u:=vI h') rfl rfl;have hi2:i<(v.dN i {v.ys[i]with c:={v.ys[i].c with sl:=v.ys[i].c.sl.set k ⟨v.ys[i].c.sl[k].p,v.ys[i].c.sl[k].n,h'⟩}}).ys.length:=by
  unfold Sc.dN;simpa using hi
 have e1:(v.dN i {v.ys[i]with c:={v.ys[i].c with sl:=v.ys[i].c.sl.set k ⟨v.ys[i].c.sl[k].p,v.ys[i].c.sl[k].n,h'⟩}}).ys[i]={v.ys[i]with c:={v.ys[i].c with sl:=v.ys[i].c.sl.set k ⟨v.ys[i].c.sl[k].p,v.ys[i].c.sl[k].n,h'⟩}}:=by simp[Sc.dN]
 have h2:=h1.1.Qs hi2 (g:=g) (by rw[e1];exact hg) (k:=k) (by rw[e1];simpa using hk) (x':=⟨v.ys[i].c.sl[k].p,n',h'⟩) (j:=1) (by decide) (u:=vI n') (by
  simp only[e1,List.getElem_set_self];rfl) rfl
 have h3:=h2.1;rw[e1]at h3;have e2:(({s with w:=s.w.set a u}:Sy).fH i {v.ys[i].c with sl:=v.ys[i].c.sl.set k ⟨v.ys[i].c.sl[k].p,v.ys[i].c.sl[k].n,h'⟩}).fH i {v.ys[i].c with sl:=(v.ys[i].c.sl.set k ⟨v.ys[i].c.sl[k].p,v.ys[i].c.sl[k].n,h'⟩).set k ⟨v.ys[i].c.sl[k].p,n',h'⟩}={s with w:=s.w.set a u,cs:=s.cs.set i {v.ys[i].c with sl:=v.ys[i].c.sl.set k ⟨v.ys[i].c.sl[k].p,n',h'⟩}}:=by
  unfold Sy.fH;simp only[List.set_set]
 have e3:(v.dN i {v.ys[i]with c:={v.ys[i].c with sl:=v.ys[i].c.sl.set k ⟨v.ys[i].c.sl[k].p,v.ys[i].c.sl[k].n,h'⟩}}).dN i {v.ys[i]with c:={v.ys[i].c with sl:=(v.ys[i].c.sl.set k ⟨v.ys[i].c.sl[k].p,v.ys[i].c.sl[k].n,h'⟩).set k ⟨v.ys[i].c.sl[k].p,n',h'⟩}}=v.dN i {v.ys[i]with c:={v.ys[i].c with sl:=v.ys[i].c.sl.set k ⟨v.ys[i].c.sl[k].p,n',h'⟩}}:=by
  unfold Sc.dN;simp only[List.set_set]
 have h3':=h3;simp only at h3';rw[e2,e3]at h3';exact⟨h3',(h0.2.trans h1.2).trans h2.2⟩
end
end
end Go.Proofs.YtcmpmobhongkiaaGreatDoor

/- joined. -/
import Derived.Test.YtjaogfhcnmjkiaaGreatDoorSG1
import Derived.Maps.OwnOps
import Derived.Maps.Views
set_option linter.all false
set_option maxRecDepth 100000
set_option maxHeartbeats 0
namespace Go.Proofs.YtjaogfhcnmjkiaaGreatDoor
open Go.RowKit
open Go.Value renaming slice->aA,int->aB,agg->aC,string->aF,tuple->aG,pointer->aH,ownBlock->gTh
open Go.IntKind renaming i64->aI
open Option renaming none->aJ,some->aK
open Go.Ending renaming returned->aN
open Go.Obj renaming cells->aO
open Go.Proofs.Tryz
variable {W:World}{a bs cpu g hd i j k order p t:Nat}{a1 a2:Option Addr}{h h':Hp}{key:Value}{l:List Bk}{low urgent:Bool}{ls:List Ls}{row:Option Nat}{vs:Array Value}{xs:List Int}{z:Zn}
section
variable {α:Type}
def Xd (len at_ n:Int):Bool:=decide (0<=at_/\0<=n/\n<=len/\at_<=len-n)
theorem EG (a:Option Addr)(len cap:Nat)(at_ n:Int)(w:World)(hl:len<=9223372036854775807)(h1: -9223372036854775808<=n)(h2:n<=9223372036854775807):
 Calls prog 126 #[aA a len cap,aB aI at_,aB aI n] w λe w'=>e=aN (.bool (Xd len at_ n))/\w=w':=by
 by_cases d:0<=at_
 ·by_cases c:0<=n
  ·by_cases f:n<=(len:Int)
   ·by_cases b:at_<=(len:Int)-n
    ·go_enter func126,ntmps126
     go_wp2
     go_ret
     exact⟨aX (gTg (by omega)).symm,rfl⟩
    ·go_enter func126,ntmps126
     go_wp2
     go_ret
     exact⟨aX (gV (by omega)).symm,rfl⟩
   ·go_enter func126,ntmps126
    go_wp2
    go_ret
    exact⟨aX (gV (by omega)).symm,rfl⟩
  ·go_enter func126,ntmps126
   go_wp2
   go_ret
   exact⟨aX (gV (by omega)).symm,rfl⟩
 ·go_enter func126,ntmps126
  go_wp2
  go_ret
  exact⟨aX (gV (by omega)).symm,rfl⟩
def EH (p:α->Bool)(xs:List α):Int:=match xs.findIdx? p with | some i=>(i:Int) | none=> -1
theorem UG {p:α->Bool}{xs:List α}(hk:k<xs.length)(h:p xs[k]=true)(hn:∀x∈xs.take k,p x=false):EH p xs=k:=by
 have e:xs.findIdx? p=aK k:=by
  rw[List.findIdx?_eq_some_iff_getElem];refine⟨hk,h,λj a=> ?_⟩;have:=hn (xs[j]'(by omega)) (by rw[List.mem_take_iff_getElem];exact⟨j,by omega,rfl⟩);simp[this]
 simp[EH,e]
theorem Qu {p:α->Bool}{xs:List α}(hn:∀x∈xs,p x=false):EH p xs= -1:=by
 have e:xs.findIdx? p=aJ:=by rw[List.findIdx?_eq_none_iff];exact hn
 simp[EH,e]
theorem UH (a:Option Addr)(cap:Nat)(xs:List Int)(v:Int)(w:World)(hl:xs.length<=9223372036854775807)(hr:Row w a (xs.map vI)):
 Calls prog 93 #[aA a xs.length cap,aB aI v] w λe w'=>e=aN (aB aI (EH (v == ·) xs))/\w=w':=by
 go_enter func93,ntmps93
 go_wp2
 go_loop [5,8] (λ_ g=>∃k:Nat,k<=xs.length/\g=aB aI k/\Hid (∀x∈xs.take k,(v == x)=false)) (λ_ g=>xs.length-(intOf g).toNat)
 case atStart=>exact⟨0,gU _,rfl,by simp[Hid]⟩
 case round=>
  obtain⟨k,i,rfl,c⟩:=hrel;by_cases d:k<xs.length
  ·obtain⟨b,off,rfl,hb,h⟩:=hr k (vI xs[k]) (by simp[d]);simp only[vI]at h;clear hr;cases hv:v == xs[k]with
   | true=>
    go_wp2
    go_ret
    exact⟨dO (UG d hv c.out).symm,rfl⟩
   | false=>
    go_wp2
    go_round
    case rel=>exact⟨k+1,by omega,by go_num,λx f=>by
     rw[List.take_succ_eq_append_getElem d,gZ,gTa]at f;rcases f with f | rfl
     ·exact c.out x f
     ·exact hv⟩
    case measure=>simp[intOf];omega
  ·obtain rfl:k=xs.length:=by omega
   go_wp2
   go_ret
   exact⟨dO (Qu (by simpa[Hid]using c)).symm,rfl⟩
theorem JJ (p:α->Bool)(xs:List α):decide (0<=EH p xs)=xs.any p:=by
 unfold EH;cases h:xs.findIdx? p with
 | none=>rw[List.findIdx?_eq_none_iff]at h;symm;simpa using h
 | some i=>rw[List.findIdx?_eq_some_iff_getElem]at h;obtain⟨b,a,_⟩:=h;symm;simp only[Int.natCast_nonneg,decide_true,List.any_eq_true];exact⟨_,gL b,a⟩
def vU (xs:List Int)(v:Int):Bool:=xs.contains v
theorem jS (a:Option Addr)(cap:Nat)(xs:List Int)(v:Int)(w:World)(hl:xs.length<=9223372036854775807)(hr:Row w a (xs.map vI)):
 Calls prog 45 #[aA a xs.length cap,aB aI v] w λe w'=>e=aN (.bool (vU xs v))/\w=w':=by
 go_enter func45,ntmps45
 go_wp2_with (go_at_call 93;refine(UH _ _ _ _ _ hl hr).mono ?_;rintro e w' ⟨rfl,rfl⟩)
 go_ret
 exact⟨aX (by rw[JJ,vU,List.contains_eq_any_beq]),rfl⟩
theorem Iy:(prog.info? 3).map (λi=>(i.zero,i.size,i.bytes))=aK (aK (aB aI 0),1,8):=by kernel_rfl
theorem Xt (xs:List Int):∀u∈xs.map vI,u.oneCell'=true:=by
 intro u a;obtain⟨x,_,rfl⟩:=List.mem_map.1 a;rfl
theorem Iz (a:Option Addr)(cap:Nat)(xs:List Int)(w:World)(hl:xs.length*8<=140737488355328)(hr:Row w a (xs.map vI)):
 Calls prog 35 #[aA a xs.length cap] w λe w'=>∃a' c',e=aN (aA a' xs.length c')/\w'.ownsRow w.heap.size 3 1 (aA a' xs.length c') xs.length (xs.map vI)/\Below w.heap.size w w':=by
 have j:∀(w:World) (a:Option Addr) (n c g c':Nat),(binOp .eql 34 (aA a n c) (aA aJ g c')).run prog w= .ok (.bool a.isNone) w:=λw a n c g c'=>Lib.run_eql_slice_nil w _ _ a n c g c' underlying34
 cases a with
 | none=>
  have m:xs=[]:=by
   cases xs with
   | nil=>rfl
   | cons u l=>obtain⟨b,off,i,_⟩:=hr 0 (vI u) rfl;cases i
  subst m;go_enter func35,ntmps35
  go_wp2
  go_ret
  exact⟨aJ,0,rfl,World.ownsRow_nil _ _ _ _,gX _ _⟩
 | some ad=>
  go_enter func35,ntmps35
  go_wp2_with (at_builtin;refine iV rfl _ _ 34 rfl w.heap.size 3 (aB aI 0) 1 8 underlying34 Iy rfl (by decide) (by decide) _ _ _ _ rfl (World.ownsRow_made w #[] 0 (gT _) (gU _) (by simp)) (aK ad) xs.length cap (xs.map vI) rfl ?q1 ?q2 ?q3 ?q4 ?q5 ?_)
  case q1=>simp
  case q2=>exact hr.below ((gX _ _).alloc (gT _) _)
  case q3=>exact Xt xs
  case q4=>rw[Nat.zero_add];exact hl
  case q5=>simp
  intro a' c' o f d;go_wp2
  go_ret
  exact⟨a',c',rfl,f,((gX _ w).alloc (gT _) _).grown d (by simp) (by intro k h;simp[gTh]at h;omega)⟩
theorem BF {w:World}{a:Option Addr}(hr:Row w a (xs.map vI))(h:k<xs.length):
 ∃b off,a=aK ⟨b,off,aJ⟩/\b<w.heap.size/\w.cell? ⟨b,off+k,aJ⟩=aK (aB aI xs[k]):=
 hr k (vI xs[k]) (by simp[h])
end
def jB (xs:List Int)(most:Int):Nat->Int->List Int->Option (List Int)
 | 0,_,_=>aJ
 | f+1,p,out=>if p= -1 then aK out else if(out.length:Int)>=most∨Xd xs.length p 1=false∨vU out p=true then aJ else jB xs most f (xs.getD p.toNat 0) (out++[p])
def follow (xs:List Int)(p most:Int):Option (List Int):=jB xs most (xs.length+2) p []
theorem EI:∀(n:Nat) (l:List Int),l.Nodup->(∀x∈l,0<=x/\x<n)->l.length<=n
 | 0,l,_,h=>by
  cases l with
  | nil=>simp
  | cons a l=>have:=h a (by simp);omega
 | n+1,l,hd,h=>by
  have b:=EI n (l.erase (n:Int)) (hd.erase _) (λx c=>by
   have g:=h x (List.mem_of_mem_erase c);have f:x≠(n:Int):=by
    intro e;subst e;exact(List.Nodup.not_mem_erase hd) c
   omega)
  by_cases d:(n:Int)∈l
  ·rw[List.length_erase_of_mem d]at b;omega
  ·rw[List.erase_of_not_mem d]at b;omega
def lenOf:Value->Nat | aA _ n _=>n | _=>0
def EJ (w:World)(r:Option (List Int))(e:Ending)(w':World):Prop:=
 Below w.heap.size w w'/\match r with
  | some l=>∃a c,e=aN (aG #[aA a l.length c,aB aI 0])/\w'.ownsRow w.heap.size 3 1 (aA a l.length c) l.length (l.map vI)
  | none=>e=aN (aG #[aA aJ 0 0,aB aI 8])
theorem Qv (a:Option Addr)(cap:Nat)(xs:List Int)(p most:Int)(w:World)(hl:xs.length<=1000000)(hr:Row w a (xs.map vI)):
 Calls prog 91 #[aA a xs.length cap,aB aI p,aB aI most] w (EJ w (follow xs p most)):=by
 generalize E:follow xs p most=R;go_enter func91,ntmps91
 go_wp2
 go_loopw [1,8] (λQ F wr=>∃(q:Int) (out:List Int) (o:Option Addr) (r f:Nat),Q=aB aI q/\F=aA o out.length r/\wr.ownsRow w.heap.size 3 1 (aA o out.length r) out.length (out.map vI)/\
  Below w.heap.size w wr/\Hid (jB xs most f q out=R)/\f+out.length=xs.length+2/\Hid (out.Nodup/\∀x∈out,0<=x/\x<xs.length)) (λ_ F _=>xs.length+2-lenOf F)
 case atStart=>exact⟨p,[],aJ,0,xs.length+2,rfl,rfl,World.ownsRow_nil _ _ _ _,gX _ _,E,rfl,List.nodup_nil,by simp⟩
 case round=>
  obtain⟨q,out,o,r,f,rfl,rfl,d,c,I,V,l⟩:=hrel;have U:=EI xs.length out l.out.1 l.out.2;obtain⟨f,rfl⟩:∃T,f=T+1:=⟨f-1,by omega⟩
  have t:out.length<=9223372036854775807:=by omega
  have g:=I.out;unfold jB at g;by_cases s:q= -1
  ·have O:(q != -1)=false:=by simp[s]
   rw[if_pos s]at g;have m:=gO d;clear d s E;go_wp2
   go_ret2
   subst g;exact⟨c,_,_,rfl,m.out⟩
  ·have O:(q != -1)=true:=by simp[s]
   rw[if_neg s]at g;have m:=gO d;clear d E I;by_cases M:most<=(out.length:Int)
   ·rw[if_pos (Or.inl M)]at g;subst g;go_wp2_with fail
    go_ret2
    exact⟨c,rfl⟩
   ·cases h3:Xd xs.length q 1 with
    | false=>
     rw[if_pos (Or.inr (Or.inl h3))]at g;subst g;go_wp2_with (go_at_call 126;refine(EG _ _ _ _ _ _ (by omega) (by omega) (by omega)).mono ?_;rintro e v ⟨rfl,rfl⟩)
     go_ret2
     exact⟨c,rfl⟩
    | true=>
     cases h4:vU out q with
     | true=>
      rw[if_pos (Or.inr (Or.inr h4))]at g;subst g;go_wp2_with (first | (go_at_call 126;refine(EG _ _ _ _ _ _ (by omega) (by omega) (by omega)).mono ?_;rintro e v ⟨rfl,rfl⟩) | (go_at_call 45;refine(jS _ _ _ _ _ t (aV m.out)).mono ?_;rintro e v ⟨rfl,rfl⟩))
      go_ret2
      exact⟨c,rfl⟩
     | false=>
      rw[if_neg (by rw[h3,h4];simp;omega)]at g;have G:0<=q/\q<xs.length:=by unfold Xd at h3;simp only[decide_eq_true_eq]at h3;omega
      obtain⟨k,rfl⟩:=Int.eq_ofNat_of_zero_le G.1;have H:k<xs.length:=by omega
      rw[Int.toNat_natCast,List.getD_eq_getElem?_getD,gJ H,Option.getD_some]at g;have D:=gO g;clear g;have z:=hr.below c;have B:=c.size;have A:Hid ((wr.alloc (aO #[aB aI (k:Int)] 3)).ownsRow w.heap.size 3 1 (aA o out.length r) out.length (out.map vI)):=gO (own_below m.out ((gX _ _).alloc (gT _) _) (gT _));have K:Hid (Row (wr.alloc (aO #[aB aI (k:Int)] 3)) (aK ⟨wr.heap.size,0,aJ⟩) [vI k]):=Xo _ _ _;go_wp2_with (first | (go_at_call 126;refine(EG _ _ _ _ _ _ (by omega) (by omega) (by omega)).mono ?_;rintro e v ⟨rfl,rfl⟩) | (go_at_call 45;refine(jS _ _ _ _ _ t (aV m.out)).mono ?_;rintro e v ⟨rfl,rfl⟩) | (at_builtin;refine iV rfl _ _ 34 rfl w.heap.size 3 (aB aI 0) 1 8 underlying34 Iy rfl (by decide) (by decide) o out.length r (out.map vI) rfl A.out (aK ⟨wr.heap.size,0,aJ⟩) 1 1 [vI k] rfl rfl K.out (by simp[vI,Value.oneCell']) (by omega) (by simp;omega) ?_))
      intro P N L i j;have u:Below w.heap.size w L:=below_grown (c.alloc B _) A.out j (gT _) (by simp;omega);obtain⟨b,off,rfl,S,W⟩:=BF (hr.below u) H;have C:=gO i;clear i A K z j hr m;go_wp2
      go_roundw
      case rel=>
       refine⟨xs[k],out++[(k:Int)],P,N,f,rfl,by simp,?_,u,D.out,by simp;omega,?_⟩
       ·have h:=C.out;simp only[gTb,List.length_cons,List.length_nil,List.map_append,List.map_cons,List.map_nil];exact h
       ·refine⟨?_,?_⟩
        ·rw[List.nodup_append];refine⟨l.out.1,by simp,?_⟩;intro x n y J;simp only[gTa]at J;subst J;intro e;subst e;have:vU out (k:Int)=true:=by unfold vU;simpa using n
         rw[this]at h4;cases h4
        ·intro x n;rw[gZ,gTa]at n;rcases n with n | rfl
         ·exact l.out.2 x n
         ·omega
      case measure=>simp[lenOf];omega
theorem Xu (a:Option Addr)(n cap:Nat)(xs:List Int)(p most:Int)(w:World)(hn:xs.length=n)(hl:n<=1000000)(hr:Row w a (xs.map vI)):
 Calls prog 91 #[aA a n cap,aB aI p,aB aI most] w (EJ w (follow xs p most)):=by
 subst hn;exact Qv a cap xs p most w hl hr
theorem Nj (a:Option Addr)(n cap:Nat)(xs:List Int)(p most:Int)(w:World)(hn:xs.length=n)(hl:n<=1000000)(hr:Row w a (xs.map vI))(l:List Int)(hf:follow xs p most=aK l):
 Calls prog 91 #[aA a n cap,aB aI p,aB aI most] w λe w'=>∃a' c',e=aN (aG #[aA a' l.length c',aB aI 0])/\w'.ownsRow w.heap.size 3 1 (aA a' l.length c') l.length (l.map vI)/\Below w.heap.size w w':=by
 refine(Xu a n cap xs p most w hn hl hr).mono λe w' h=> ?_
 rw[hf]at h;obtain⟨hb,a',c',c,b⟩:=h;exact⟨a',c',c,b,hb⟩
section
attribute [local go_sem ↓] iW
def chainTo (xs:List Int)(p k n:Nat):Nat->List Int
 | 0=>xs
 | i+1=>(chainTo xs p k n i).set (p+i*k) (if i+1<n then((p+(i+1)*k:Nat):Int)else-1)
theorem iG (xs:List Int)(p k n:Nat):∀i,(chainTo xs p k n i).length=xs.length
 | 0=>rfl
 | i+1=>by simp[chainTo,iG xs p k n i]
theorem Xv (a:Option Addr)(cap:Nat)(xs:List Int)(p k n:Nat)(w:World)(hl:xs.length<=1000000)(hr:Row w a (xs.map vI))(hk1:1<=k)(hk2:k<=64)(hn1:1<=n)(hn2:n<=xs.length)(hin:p+k*n<=xs.length):
 Calls prog 176 #[aA a xs.length cap,aB aI p,aB aI k,aB aI n] w λe w'=>∃a' c',e=aN (aG #[aA a' xs.length c',aB aI 0])/\w'.ownsRow w.heap.size 3 1 (aA a' xs.length c') xs.length ((chainTo xs p k n n).map vI)/\Below w.heap.size w w':=by
 have s:0<=(k:Int)*(n:Int):=Int.mul_nonneg (by omega) (by omega);have r:(k:Int)*(n:Int)<=xs.length-p:=by
  have:((k*n:Nat):Int)=(k:Int)*(n:Int):=by simp
  omega
 have t:Hid (Xd xs.length p ((k:Int)*(n:Int))=true):=by unfold Xd;exact gTg (by omega)
 have F:decide ((k:Int)<1)=false:=gV (by omega);have C:decide (64<(k:Int))=false:=gV (by omega);have E:decide ((n:Int)<1)=false:=gV (by omega);go_enter func176,ntmps176
 go_wp2_with (first | (go_at_call 126;refine(EG _ _ _ _ _ _ (by omega) (by omega) (by omega)).mono ?_;rw[t.out];rintro e w' ⟨rfl,rfl⟩) | (go_at_call 35;refine(Iz _ _ _ _ (by omega) hr).mono ?_;rintro e D ⟨a',c',rfl,b,hb⟩;have x:=gO b;clear b))
 go_loopw [11,12,41] (λ_ _ d wr=>∃i:Nat,i<=n/\d=aB aI i/\Hid (wr.ownsRow w.heap.size 3 1 (aA a' xs.length c') xs.length ((chainTo xs p k n i).map vI))/\Below w.heap.size w wr) (λ_ _ d _=>n-(intOf d).toNat)
 case atStart=>exact⟨0,gU _,rfl,x,hb⟩
 case round=>
  obtain⟨i,H,rfl,b,f⟩:=hrel;by_cases l:i<n
  ·have j:p+i*k<xs.length:=by
    have:i*k+k<=k*n:=by rw[<- Nat.succ_mul,Nat.mul_comm];exact Nat.mul_le_mul_left _ l
    omega
   have u:0<=(i:Int)*(k:Int):=Int.mul_nonneg (by omega) (by omega);have B:(p:Int)+(i:Int)*(k:Int)<xs.length:=by
    have:((p+i*k:Nat):Int)=(p:Int)+(i:Int)*(k:Int):=by simp
    omega
   obtain⟨g,v,rfl,q,A,I,G⟩:=fH b.out (p+i*k) (by rw[gTe,iG];exact j);have y:0<=((i:Int)+1)*(k:Int):=Int.mul_nonneg (by omega) (by omega);have o:((i:Int)+1)*(k:Int)=(i:Int)*(k:Int)+k:=by rw[Int.add_mul,Int.one_mul]
   have z:((i:Int)+1)*(k:Int)<=xs.length+64:=by omega
   clear o;by_cases c:i+1<n
   ·have m:(i:Int)<(n:Int)-1:=by omega
    go_wp2
    go_roundw
    case rel=>exact⟨i+1,by omega,by go_num,by
     have h:=(World.ownsRow.stored b.out (p+i*k) (vI (p+((i:Int)+1)*k))).1;show World.ownsRow _ _ _ _ _ _ ((chainTo xs p k n (i+1)).map vI);unfold chainTo;rw[if_pos c,List.map_set];rw[show(((p+(i+1)*k:Nat):Int))=p+((i:Int)+1)*k from by simp];exact h,f.setCell q _⟩
    case measure=>simp[intOf];omega
   ·have m:¬(i:Int)<(n:Int)-1:=by omega
    go_wp2
    go_roundw
    case rel=>exact⟨i+1,by omega,by go_num,by
     have h:=(World.ownsRow.stored b.out (p+i*k) (vI (-1))).1;show World.ownsRow _ _ _ _ _ _ ((chainTo xs p k n (i+1)).map vI);unfold chainTo;rw[if_neg c,List.map_set];exact h,f.setCell q _⟩
    case measure=>simp[intOf];omega
  ·obtain rfl:i=n:=by omega
   go_wp2
   go_ret2
   exact⟨a',c',rfl,b.out,f⟩
end
def objs (p k i:Nat):List Int:=(List.range i).map λj=>((p+j*k:Nat):Int)
theorem qM (p k i:Nat):(objs p k i).length=i:=by simp[objs]
theorem UK (p k i:Nat):objs p k (i+1)=objs p k i++[((p+i*k:Nat):Int)]:=by simp[objs,List.range_succ]
theorem Di (xs:List Int)(p k n:Nat)(hk:1<=k)(hin:p+k*n<=xs.length):∀j,j<=n->∀i,i<j->(chainTo xs p k n j)[p+i*k]? =aK (if i+1<n then((p+(i+1)*k:Nat):Int)else-1)
 | 0,_,i,hi=>by omega
 | j+1,hj,i,hi=>by
  have hlt:∀i,i<n->p+i*k<xs.length:=λi hi=>by
   have:i*k+k<=k*n:=by rw[<- Nat.succ_mul,Nat.mul_comm];exact Nat.mul_le_mul_left _ hi
   omega
  unfold chainTo;by_cases e:i=j
  ·subst e;rw[List.getElem?_set_self (by rw[iG];exact hlt i (by omega))]
  ·have a:p+j*k≠p+i*k:=by
    intro h;have b:j*k=i*k:=by omega
    exact e (Nat.eq_of_mul_eq_mul_right (by omega) b).symm
   rw[List.getElem?_set_ne a];exact Di xs p k n hk hin j (by omega) i (by omega)
theorem BG (xs:List Int)(p k n:Nat)(most:Int)(hk:1<=k)(hn:1<=n)(hin:p+k*n<=xs.length):
 ∀d i f,i+d=n->1<=d->d+1<=f->(i:Int)<=most->jB (chainTo xs p k n n) most f ((p+i*k:Nat):Int) (objs p k i)=if(n:Int)<=most then aK (objs p k n)else aJ:=by
 intro d
 induction d with
 | zero=>intro i f _ h;omega
 | succ d ih=>
  intro i f r _ s m;obtain⟨f,rfl⟩:∃b,f=b+1:=⟨f-1,by omega⟩
  have a:((p+i*k:Nat):Int)≠ -1:=by omega
  have g:p+i*k<xs.length:=by
   have:i*k+k<=k*n:=by rw[<- Nat.succ_mul,Nat.mul_comm];exact Nat.mul_le_mul_left _ (by omega)
   omega
  unfold jB;rw[if_neg a,qM];by_cases t:(i:Int)=most
  ·rw[if_pos (Or.inl (by omega)),if_neg (by omega)]
  ·have l:Xd (chainTo xs p k n n).length ((p+i*k:Nat):Int) 1=true:=by
    unfold Xd;rw[iG];exact gTg (by omega)
   have q:vU (objs p k i) ((p+i*k:Nat):Int)=false:=by
    unfold vU;rw[List.contains_eq_any_beq,List.any_eq_false];intro x e;simp only[objs,List.mem_map,List.mem_range]at e;obtain⟨j,u,rfl⟩:=e;simp only[beq_iff_eq];intro h;have o:i*k=j*k:=by omega
    have:=Nat.eq_of_mul_eq_mul_right (by omega) o;omega
   rw[if_neg (by rw[l,q];simp;omega),Int.toNat_natCast,List.getD_eq_getElem?_getD,Di xs p k n hk hin n (gT _) i (by omega),Option.getD_some,<- UK];by_cases c:i+1<n
   ·rw[if_pos c];exact ih (i+1) f (by omega) (by omega) (by omega) (by omega)
   ·rw[if_neg c];obtain rfl:n=i+1:=by omega
    obtain⟨f,rfl⟩:∃b,f=b+1:=⟨f-1,by omega⟩
    unfold jB;rw[if_pos rfl,if_pos (by omega)]
theorem zU (xs:List Int)(p k n:Nat)(most:Int)(hk:1<=k)(hn:1<=n)(hin:p+k*n<=xs.length)(h0:0<=most):
 follow (chainTo xs p k n n) p most=if(n:Int)<=most then aK (objs p k n)else aJ:=by
 have a:n<=k*n:=Nat.le_mul_of_pos_left _ (by omega);have h:=BG xs p k n most hk hn hin n 0 ((chainTo xs p k n n).length+2) (by omega) hn (by rw[iG];omega) (by omega);simpa[follow,objs]using h
theorem eY.push (hk:eY h){l:Ls}(hl:l.c<h.aAh/\l.z<2/\l.t<3)(hp:p<256/\(p<h.z0.e↔l.z=0))(h8:∀x∈h.ls,x.key=l.key->x.p.length+1<=8)(hd:∀q,cnt h.all q+hit ⟨p,0,0⟩ q<=1):
 eY {h with ls:=bK h.ls l p}/\∀q,cnt ({h with ls:=bK h.ls l p}:Hp).all q=cnt h.all q+hit ⟨p,0,0⟩ q:=by
 have a:∀q,cnt ({h with ls:=bK h.ls l p}:Hp).all q=cnt h.all q+hit ⟨p,0,0⟩ q:=λq=>by
  rw[dJ,dJ];simp only;rw[cnt_push];omega
 exact⟨⟨hk.o0,hk.o1,hk.f0,hk.e0,hk.e1,hk.m0,hk.m1,hk.cp,mG hk.lk l p,JQ (N:=8) (M:=8) hk.lr hl hp (gT _) (by omega) h8,hk.lv,hk.vs,λq=>by rw[a];exact hd q⟩,a⟩
def zX (ls:List Ls)(k:Nat):Nat:=match ls.find? λx=>decide (x.key=k)with
 | some x=>x.p.length
 | none=>0
theorem Nr (h:lJ ls){x:Ls}(hx:x∈ls):zX ls x.key=x.p.length:=by
 unfold zX;have:ls.find? (λy=>decide (y.key=x.key))=aK x:=by
  induction ls with
  | nil=>simp at hx
  | cons y ls ih=>
   obtain⟨a,b⟩:=List.pairwise_cons.1 h;rw[gY]at hx;rcases hx with rfl | hx
   ·rw[List.find?_cons_of_pos (by simp)]
   ·rw[List.find?_cons_of_neg (by have:=a x hx;simp;omega)];exact ih b hx
 rw[this]
theorem EN {l:Ls}(h:lJ ls):∀x∈bK ls l p,x.key=l.key->x.p.length=zX ls l.key+1:=by
 intro x c b;have u:=mG h l p;unfold bK at c u;split at c
 ·rename_i y hy;obtain⟨q,f⟩:=gK.1 hy;have t:y∈ls:=by rw[<- f];exact gL q
  by_cases g:y.key=l.key
  ·rw[if_pos g]at c;have o:=Nr h t;rw[g]at o;rcases List.mem_or_eq_of_mem_set c with e | rfl
   ·obtain⟨j,s,rfl⟩:=List.getElem_of_mem c;rw[List.length_set]at s;rw[List.getElem_set]at b ⊢;by_cases r:jU ls l.key=j
    ·rw[if_pos r]at b ⊢;simp[o]
    ·rw[if_neg r]at b;exfalso;rcases Nat.lt_or_gt_of_ne r with i | m
     ·have:=gN.1 h _ _ q s i;rw[f,g,b]at this;omega
     ·have:=gN.1 h _ _ s q m;rw[f,g,b]at this;omega
   ·simp[o]
  ·rw[if_neg g]at c;have a:=pX h (k:=l.key) λw d=>by rw[hy]at d;obtain rfl:=gP d;exact g
   have n:zX ls l.key=0:=by
    unfold zX;rw[List.find?_eq_none.2 (λw d=>by simpa using a w d)]
   rw[gZ,gY]at c;rcases c with e | rfl | e
   ·exact absurd b (a x (List.mem_of_mem_take e))
   ·rw[n];rfl
   ·exact absurd b (a x (List.mem_of_mem_drop e))
 ·rename_i hy;have a:=pX h (k:=l.key) λw d=>by rw[hy]at d;cases d
  have n:zX ls l.key=0:=by
   unfold zX;rw[List.find?_eq_none.2 (λw d=>by simpa using a w d)]
  rw[gZ,gY]at c;rcases c with e | rfl | e
  ·exact absurd b (a x (List.mem_of_mem_take e))
  ·rw[n];rfl
  ·exact absurd b (a x (List.mem_of_mem_drop e))
theorem eY.fill {l:Ls}{hd:Nat}:∀(n:Nat) {h:Hp},eY h->(l.c<h.aAh/\l.z<2/\l.t<3)->(∀x∈h.ls,x.key=l.key->x.p.length+n<=8)->n<=8->
 eY (h.fill l hd n)/\(∀q,cnt (h.fill l hd n).all q=cnt h.all q)/\Same h (h.fill l hd n)/\(h.fill l hd n).live=h.live
 | 0,h,hk,_,_,_=>⟨hk,λ_=>rfl,Same.refl h,rfl⟩
 | n+1,h,hk,hl,h8,hn=>by
  unfold Hp.fill;cases ht:h.mF l.z 0 l.t hd with
  | none=>exact⟨hk,λ_=>rfl,Same.refl h,rfl⟩
  | some r=>
   obtain⟨h',a⟩:=r;obtain⟨d,g,v⟩:=hk.mF (by omega) hl.2.2 hl.2.1 ht;have f:l.c<h'.aAh/\l.z<2/\l.t<3:=by rw[d.same.aAh];exact hl
   obtain⟨o,m⟩:=d.ok.push (l:=l) (p:=a) f ⟨d.fit.2.2.1,by rw[d.same.split];exact v⟩ (λx i hk=>by rw[g]at i;have:=h8 x i hk;omega) (λq=>by rw[d.c 0 q];exact hk.one q);obtain⟨k1,k2,s,u⟩:=eY.fill n (h:={h' with ls:=bK h'.ls l a}) o f (λx i e=>by
    have:=EN d.ok.lk x i e;have w:zX h'.ls l.key+(n+1)<=8:=by
     unfold zX;cases hf:h'.ls.find? λx=>decide (x.key=l.key)with
     | none=>simp only;omega
     | some y=>
      have k:=List.mem_of_find?_eq_some hf;have j:=List.find?_some hf;rw[g]at k;exact h8 y k (of_decide_eq_true j)
    omega) (by omega)
   exact⟨k1,λq=>by rw[k2,m,d.c 0 q],Same.trans (b:={h' with ls:=bK h'.ls l a}) (Same.trans d.same ⟨rfl,rfl,rfl,rfl⟩) s,u.trans d.live⟩
theorem sH (h:p<256):cZ 0 256 p 0:=⟨by omega,by omega,h,by simp[Nat.mod_one]⟩
theorem aFe (a o t t' p:Nat):hit ⟨a,o,t⟩ p=hit ⟨a,o,t'⟩ p:=rfl
theorem UO {n:Nat}(hm:∀y∈ls,y.key≠k):∀x∈ls,x.key=k->x.p.length+n<=8:=λx a b=>absurd b (hm x a)
theorem eY.filled (hk:eY h){l:Ls}(hl:l.c<h.aAh/\l.z<2/\l.t<3)(hm:∀y∈h.ls,y.key≠l.key)(he:(h.mF l.z 0 l.t hd).map (λr=>(r.1.fill l hd 3,r.2))=aK (h',a)):UN h 0 h' a:=by
 cases ht:h.mF l.z 0 l.t hd with
 | none=>rw[ht]at he;cases he
 | some r=>
  obtain⟨g,b⟩:=r;rw[ht]at he;simp only[Option.map_some,Option.some.injEq,Prod.mk.injEq]at he;obtain⟨rfl,rfl⟩:=he;obtain⟨d,e,j⟩:=hk.mF (by omega) hl.2.2 hl.2.1 ht;obtain⟨k1,k2,f,i⟩:=eY.fill (l:=l) (hd:=hd) 3 d.ok (by rw[d.same.aAh];exact hl) (UO (by rw[e];exact hm)) (by omega);exact⟨k1,d.fit,λt p=>by rw[k2];exact d.c t p,d.same.trans f,i.trans d.live⟩
theorem eY.single (hk:eY h){l:Ls}(hl:l.c<h.aAh/\l.z<2/\l.t<3)(he:h.single l hd=aK (h',a)):UN h 0 h' a:=by
 unfold Hp.single at he;cases hx:h.ls[jU h.ls l.key]? with
 | none=>
  rw[hx]at he;exact hk.filled hl (pX hk.lk λy b=>by rw[hx]at b;cases b) he
 | some x=>
  rw[hx]at he;simp only at he;obtain⟨s,g⟩:=gK.1 hx;by_cases d:x.key=l.key
  ·rw[if_pos d]at he;simp only[Option.some.injEq,Prod.mk.injEq]at he;obtain⟨rfl,rfl⟩:=he;have u:x∈h.ls:=by rw[<- g];exact gL s
   obtain⟨E,H,F,C,I,B⟩:=hk.lr x u;have k:x.p≠[]:=λe=>by rw[e]at C;simp at C
   obtain⟨f,y,b⟩:∃f y,x.p=f++[y]:=⟨x.p.dropLast,x.p.getLast k,(List.dropLast_concat_getLast k).symm⟩
   have j:x.p.getLastD 0=y:=by rw[b];simp
   have i:x.p.dropLast=f:=by rw[b];simp
   have o:x.p.length=f.length+1:=by rw[b];simp
   have v:y∈x.p:=by rw[b];simp
   rw[j,i,o];have n:∀q,cnt (lI x.p) q=cnt (lI f) q+hit ⟨y,0,0⟩ q:=λq=>by rw[b,jJ];rfl
   have A:∀q,cnt (lsB (if f.length+1=1 then h.ls.eraseIdx (jU h.ls l.key)else h.ls.set (jU h.ls l.key) {x with p:=f})) q+hit ⟨y,0,0⟩ q=cnt (lsB h.ls) q:=λq=>by
    split
    ·rename_i h1;have:=yQ s q;rw[g,n]at this;have G:f=[]:=List.eq_nil_of_length_eq_zero (by omega);rw[G]at this;simp only[lI,List.map_nil,cnt]at this;omega
    ·have:=wG s {x with p:=f} q;rw[g,n]at this;simp only at this;omega
   have m:∀t q,cnt ({h with ls:=if f.length+1=1 then h.ls.eraseIdx (jU h.ls l.key)else h.ls.set (jU h.ls l.key) {x with p:=f}}:Hp).all q+hit ⟨y,0,t⟩ q=cnt h.all q:=λt q=>by
    rw[aFe y 0 t 0,dJ,dJ];simp only;have:=A q;omega
   refine⟨⟨hk.o0,hk.o1,hk.f0,hk.e0,hk.e1,hk.m0,hk.m1,hk.cp,?_,?_,hk.lv,hk.vs,λq=>by have:=m 0 q;have:=hk.one q;omega⟩,sH (B y v).1,m,⟨rfl,rfl,rfl,rfl⟩,rfl⟩
   ·simp only;split
    ·exact hk.lk.sublist (List.eraseIdx_sublist _ _)
    ·exact EM hk.lk s (by rw[g];rfl)
   ·simp only;intro w r;split at r
    ·exact hk.lr w ((List.eraseIdx_sublist _ _).subset r)
    ·rename_i h1;rcases List.mem_or_eq_of_mem_set r with r | rfl
     ·exact hk.lr w r
     ·exact⟨E,H,F,by simp only;omega,by simp only;omega,λq D=>B q (by rw[b];simp[D])⟩
  ·rw[if_neg d]at he;exact hk.filled hl (pX hk.lk λy b=>by rw[hx]at b;obtain rfl:=gP b;exact d) he
theorem eY.ask (hk:eY h)(hc:cpu<h.aAh)(hi:i<2)(ho:order<=4)(ht:t<3)(he:h.ask cpu i order t urgent low=aK (h',a)):UN h order h' a:=by
 unfold Hp.ask at he;split at he
 ·rename_i h0;subst h0;exact hk.single ⟨hc,hi,ht⟩ he
 ·exact(hk.mF ho ht hi he).1
theorem eY.attempt (hk:eY h)(hc:cpu<h.aAh)(ho:order<=4)(ht:t<3)(he:h.attempt cpu order t urgent low=aK (h',a)):UN h order h' a:=by
 unfold Hp.attempt at he;split at he
 ·exact hk.ask hc (by omega) ho ht he
 ·cases h1:h.ask cpu 1 order t urgent low with
  | some r=>
   rw[h1]at he;obtain rfl:=gP he;exact hk.ask hc (by omega) ho ht h1
  | none=>
   rw[h1]at he;exact hk.ask hc (by omega) ho ht he
theorem XD (h:Hp)(m:List Ls)(a o:Nat):({h with ls:=m}:Hp).jI a o={h.jI a o with ls:=m}:=by
 unfold Hp.jI Hp.jQ Hp.zone Hp.jH;simp only;split <;> split <;> rfl
theorem kJ:∀(ps:List Nat) (h:Hp) (m:List Ls),aW {h with ls:=m} ps={aW h ps with ls:=m}
 | [],_,_=>rfl
 | p::ps,h,m=>by rw[aW,aW,XD,kJ ps]
theorem BK:∀(ls:List Ls) (h:Hp) (m:List Ls),bW {h with ls:=m} ls={bW h ls with ls:=m}
 | [],_,_=>rfl
 | l::ls,h,m=>by rw[bW,bW,kJ,BK ls]
theorem eY.aW:∀(ps:List Nat) {h:Hp},eY h->(∀p∈ps,p<256)->(∀q,cnt h.all q+cnt (lI ps) q<=1)->
 eY (aW h ps)/\(∀q,cnt (aW h ps).all q=cnt h.all q+cnt (lI ps) q)/\Same h (aW h ps)/\(aW h ps).ls=h.ls/\(aW h ps).live=h.live
 | [],h,hk,_,_=>⟨hk,λq=>by simp[Go.Proofs.YtjaogfhcnmjkiaaGreatDoor.aW,lI,cnt],Same.refl h,rfl,rfl⟩
 | p::ps,h,hk,hp,hd=>by
  have hcons:∀q,cnt (lI (p::ps)) q=hit ⟨p,0,0⟩ q+cnt (lI ps) q:=λ_=>rfl
  obtain⟨d,a,j,b,c⟩:=hk.jI (sH (hp p (by simp))) (λq=>by have:=hd q;rw[hcons]at this;omega);obtain⟨k1,k2,e,i,g⟩:=eY.aW ps d (λq f=>hp q (by simp[f])) (λq=>by rw[a];have:=hd q;rw[hcons]at this;omega);exact⟨k1,λq=>by have:=k2 q;rw[a]at this;rw[hcons];show cnt (Go.Proofs.YtjaogfhcnmjkiaaGreatDoor.aW (h.jI p 0) ps).all q=_;omega,j.trans e,i.trans b,g.trans c⟩
theorem eY.bW:∀(ls:List Ls) {h:Hp},eY h->(∀l∈ls,∀p∈l.p,p<256)->(∀q,cnt h.all q+cnt (lsB ls) q<=1)->
 eY (bW h ls)/\(∀q,cnt (bW h ls).all q=cnt h.all q+cnt (lsB ls) q)/\Same h (bW h ls)/\(bW h ls).ls=h.ls/\(bW h ls).live=h.live
 | [],h,hk,_,_=>⟨hk,λq=>by simp[Go.Proofs.YtjaogfhcnmjkiaaGreatDoor.bW,lsB,cnt],Same.refl h,rfl,rfl⟩
 | l::ls,h,hk,hp,hd=>by
  obtain⟨g1,g2,g3,g4,g5⟩:=hk.aW l.p (hp l (by simp)) (λq=>by have:=hd q;rw[iO]at this;omega);obtain⟨k1,k2,b,d,c⟩:=eY.bW ls g1 (λm a=>hp m (by simp[a])) (λq=>by rw[g2];have:=hd q;rw[iO]at this;omega);exact⟨k1,λq=>by have:=k2 q;rw[g2]at this;rw[iO];show cnt (Go.Proofs.YtjaogfhcnmjkiaaGreatDoor.bW (Go.Proofs.YtjaogfhcnmjkiaaGreatDoor.aW h l.p) ls).all q=_;omega,g3.trans b,d.trans g4,c.trans g5⟩
theorem eY.JR (hk:eY h):eY {h with ls:=[]}:=
 ⟨hk.o0,hk.o1,hk.f0,hk.e0,hk.e1,hk.m0,hk.m1,hk.cp,List.Pairwise.nil,λl b=>by simp at b,hk.lv,hk.vs,λq=>by
  have a:=hk.one q;rw[dJ]at a ⊢;simp only[lsB,cnt];omega⟩
theorem eY.drain (hk:eY h):eY h.drain/\(∀q,cnt h.drain.all q=cnt h.all q)/\Same h h.drain/\h.drain.ls=[]/\h.drain.live=h.live:=by
 have e:h.drain=Go.Proofs.YtjaogfhcnmjkiaaGreatDoor.bW {h with ls:=[]} h.ls:=(BK h.ls h []).symm;have a:∀q,cnt ({h with ls:=[]}:Hp).all q+cnt (lsB h.ls) q=cnt h.all q:=λq=>by
  rw[dJ,dJ];simp only[lsB,cnt];omega
 obtain⟨k1,k2,d,i,g⟩:=hk.JR.bW h.ls (λl f p c=>((hk.lr l f).2.2.2.2.2 p c).1) (λq=>by rw[a];exact hk.one q);rw[e];exact⟨k1,λq=>by rw[k2,a],Same.trans (b:={h with ls:=[]}) ⟨rfl,rfl,rfl,rfl⟩ d,i,g⟩
theorem sJ (l:List Bk)(b:Bk)(q:Nat):cnt (bI l b) q=cnt l q+hit b q:=by
 unfold bI
 conv=>rhs;rw[<- List.take_append_drop (lb l b.a) l]
 rw[bT,bT,cnt];omega
theorem BL (hi:i<l.length)(q:Nat):cnt (l.eraseIdx i) q+hit l[i] q=cnt l q:=by
 have a:l=l.take i++l[i]::l.drop (i+1):=by rw[<- List.drop_eq_getElem_cons hi,List.take_append_drop]
 conv=>rhs;rw[a]
 rw[List.eraseIdx_eq_take_drop_succ,bT,bT,cnt];omega
theorem QB (h:uN l){b:Bk}(hn:∀x∈l,x.a≠b.a):uN (bI l b):=by
 unfold uN bI;rw[List.pairwise_append];refine⟨h.sublist (List.take_sublist _ _),List.pairwise_cons.2 ⟨λy c=> ?_,h.sublist (List.drop_sublist _ _)⟩,λx f y c=> ?_⟩
 ·have d:=wF h y c;have e:=hn y (List.mem_of_mem_drop c);omega
 ·have d:=zV x f;rw[gY]at c;rcases c with rfl | c
  ·exact d
  ·have e:=wF h y c;omega
theorem IL {b x:Bk}(h:x∈bI l b):x=b∨x∈l:=by
 unfold bI at h;rw[gZ,gY]at h;rcases h with h | rfl | h
 ·exact .inr (List.mem_of_mem_take h)
 ·exact .inl rfl
 ·exact .inr (List.mem_of_mem_drop h)
theorem XE (h:Hp)(p:Nat):cnt h.live p<=cnt h.all p:=by rw[dJ];omega
theorem eY.XF {g:Hp}(hk:eY g){o:Nat}(hfit:cZ 0 256 a o)(ht:t<3)(hd:∀q,cnt g.all q+hit ⟨a,o,t⟩ q<=1):
 eY {g with live:=bI g.live ⟨a,o,t⟩}/\∀q,cnt ({g with live:=bI g.live ⟨a,o,t⟩}:Hp).all q=cnt g.all q+hit ⟨a,o,t⟩ q:=by
 have c:∀q,cnt ({g with live:=bI g.live ⟨a,o,t⟩}:Hp).all q=cnt g.all q+hit ⟨a,o,t⟩ q:=λq=>by
  rw[dJ,dJ];simp only;rw[sJ];omega
 refine⟨⟨hk.o0,hk.o1,hk.f0,hk.e0,hk.e1,hk.m0,hk.m1,hk.cp,hk.lk,hk.lr,λb hb=> ?_,QB hk.vs λx h e=> ?_,λq=>by rw[c];exact hd q⟩,c⟩
 ·rcases IL hb with rfl | hb
  ·exact⟨hfit,ht⟩
  ·exact hk.lv b hb
 ·have k:=hd a;have i:=XE g a;have f:=dZ o;have d:=dZ x.o;have l:0<cnt g.live a:=jC.2 ⟨x,h,by unfold inB;simp only at e;omega⟩;have j:hit ⟨a,o,t⟩ a=1:=jT.2 (by unfold inB;simp only;omega);omega
theorem eY.alloc (hk:eY h)(hc:cpu<h.aAh)(ho:order<=4)(ht:t<3)(he:h.alloc cpu order t urgent low=aK (h',a)):
 eY h'/\(∀q,cnt h'.all q=cnt h.all q)/\Same h h'/\h'.live=bI h.live ⟨a,order,t⟩/\cZ 0 256 a order:=by
 have key:∃g,UN h order g a/\h'={g with live:=bI g.live ⟨a,order,t⟩}:=by
  unfold Hp.alloc at he;cases h1:h.attempt cpu order t urgent low with
  | some r=>
   rw[h1]at he;simp only[Option.some.injEq,Prod.mk.injEq]at he;obtain⟨rfl,rfl⟩:=he;exact⟨r.1,hk.attempt hc ho ht h1,rfl⟩
  | none=>
   rw[h1]at he;simp only at he;cases h2:h.drain.attempt cpu order t urgent low with
   | none=>rw[h2]at he;cases he
   | some r=>
    rw[h2]at he;simp only[Option.some.injEq,Prod.mk.injEq]at he;obtain⟨rfl,rfl⟩:=he;obtain⟨f,e,d,j,i⟩:=hk.drain;have b:=f.attempt (by rw[d.aAh];exact hc) ho ht h2;exact⟨r.1,⟨b.ok,b.fit,λt p=>by rw[b.c,e],d.trans b.same,b.live.trans i⟩,rfl⟩
 obtain⟨g,b,rfl⟩:=key;obtain⟨k1,k2⟩:=b.ok.XF b.fit ht (λq=>by rw[b.c t q];exact hk.one q);exact⟨k1,λq=>by rw[k2,b.c t q],Same.trans b.same ⟨rfl,rfl,rfl,rfl⟩,by simp only;rw[b.live],b.fit⟩
theorem QC {l:Ls}:∀x∈bK ls l p,x.key≠l.key->x∈ls:=by
 intro x a b;unfold bK at a;split at a
 ·rename_i y hy;split at a
  ·rename_i hk;rcases List.mem_or_eq_of_mem_set a with a | rfl
   ·exact a
   ·exact absurd hk b
  ·rw[gZ,gY]at a;rcases a with a | rfl | a
   ·exact List.mem_of_mem_take a
   ·exact absurd rfl b
   ·exact List.mem_of_mem_drop a
 ·rw[gZ,gY]at a;rcases a with a | rfl | a
  ·exact List.mem_of_mem_take a
  ·exact absurd rfl b
  ·exact List.mem_of_mem_drop a
theorem XG (ls:List Ls)(l:Ls)(p:Nat):∃x∈bK ls l p,x.key=l.key:=by
 unfold bK;split
 ·rename_i y hy;obtain⟨a,b⟩:=gK.1 hy;split
  ·rename_i hk;exact⟨{y with p:=y.p++[p]},List.mem_set a _,hk⟩
  ·exact⟨{l with p:=[p]},by simp,rfl⟩
 ·exact⟨{l with p:=[p]},by simp,rfl⟩
theorem Tt (h:lJ ls)(l:Ls)(p:Nat):∃x,(bK ls l p)[jU (bK ls l p) l.key]? =aK x/\x.key=l.key/\x.p.length=zX ls l.key+1:=by
 obtain⟨x,c,a⟩:=XG ls l p;have b:=Tn (mG h l p) c;rw[a]at b;exact⟨x,b,a,EN h x c a⟩
theorem Tv {N:Nat}(h:∀x∈ls,x.p.length<=N):zX ls k<=N:=by
 unfold zX;cases hf:ls.find? λx=>decide (x.key=k)with
 | none=>exact gU _
 | some y=>exact h y (List.mem_of_find?_eq_some hf)
theorem eY.give (hk:eY h)(hc:cpu<h.aAh)(hp:p<256)(hd:∀q,cnt h.all q+hit ⟨p,0,0⟩ q<=1):
 eY (h.give cpu p)/\(∀q,cnt (h.give cpu p).all q=cnt h.all q+hit ⟨p,0,0⟩ q)/\Same h (h.give cpu p)/\(h.give cpu p).live=h.live:=by
 unfold Hp.give;obtain⟨t,O⟩:∃t,(h.zone (h.jH p)).y.getD ((p-(h.zone (h.jH p)).f)/8) 0=t:=⟨_,rfl⟩
 have J:t<3:=by
  rw[<- O];have Y:=(hk.zone (h.jH p)).1.typ;rw[List.getD_eq_getElem?_getD];cases hg:(h.zone (h.jH p)).y[(p-(h.zone (h.jH p)).f)/8]? with
  | none=>simp
  | some u=>exact Y u (gM hg)
 rw[O];have F:h.jH p<2:=by unfold Hp.jH;split <;> omega
 have H:p<h.z0.e↔h.jH p=0:=by unfold Hp.jH;split <;> simp_all
 obtain⟨l,G⟩:∃l:Ls,l=⟨cpu,h.jH p,t,[]⟩:=⟨_,rfl⟩
 have r:l.c<h.aAh/\l.z<2/\l.t<3:=by rw[G];exact⟨hc,F,J⟩
 have m:p<256/\(p<h.z0.e↔l.z=0):=by rw[G];exact⟨hp,H⟩
 rw[<- G];simp only;obtain⟨x,v,n,S⟩:=Tt hk.lk l p;rw[v];simp only;have Q:=Tv (k:=l.key) (λx v=>(hk.lr x v).2.2.2.2.1);by_cases R:8<x.p.length
 ·rw[if_pos R];obtain⟨o,a⟩:=gK.1 v;have I:x∈bK h.ls l p:=by rw[<- a];exact gL o
  have h9:=JQ (N:=8) (M:=9) hk.lr r m (by omega) (by omega) (λy i _=>by have:=(hk.lr y i).2.2.2.2.1;omega);obtain⟨V,q2,X,q4,q5,P⟩:=h9 x I;have C:∀q,cnt (lI x.p) q=cnt (lI (x.p.take 4)) q+cnt (lI (x.p.drop 4)) q:=λq=>by rw[<- jJ,List.take_append_drop]
  have L:∀q,cnt (lsB ((bK h.ls l p).set (jU (bK h.ls l p) l.key) {x with p:=x.p.drop 4})) q+cnt (lI (x.p.take 4)) q=cnt (lsB h.ls) q+hit ⟨p,0,0⟩ q:=λq=>by
   have s:=wG o {x with p:=x.p.drop 4} q;have h2:=cnt_push h.ls l p q;rw[a,C]at s;simp only at s;omega
  have d:∀q,cnt ({h with ls:=(bK h.ls l p).set (jU (bK h.ls l p) l.key) {x with p:=x.p.drop 4}}:Hp).all q+cnt (lI (x.p.take 4)) q=cnt h.all q+hit ⟨p,0,0⟩ q:=λq=>by
   rw[dJ,dJ];simp only;have:=L q;omega
  have B:eY {h with ls:=(bK h.ls l p).set (jU (bK h.ls l p) l.key) {x with p:=x.p.drop 4}}:=by
   refine⟨hk.o0,hk.o1,hk.f0,hk.e0,hk.e1,hk.m0,hk.m1,hk.cp,EM (mG hk.lk l p) o (by rw[a];rfl),λy i=> ?_,hk.lv,hk.vs,λq=>by have:=d q;have:=hd q;omega⟩;simp only at i ⊢;obtain⟨j,w,rfl⟩:=List.getElem_of_mem i;rw[List.length_set]at w;rw[List.getElem_set];by_cases g:jU (bK h.ls l p) l.key=j
   ·rw[if_pos g];exact⟨V,q2,X,by simp only[gTd];omega,by simp only[gTd];omega,λq E=>P q (List.mem_of_mem_drop E)⟩
   ·rw[if_neg g];refine hk.lr _ (QC _ (gL w) λe=> ?_);rcases Nat.lt_or_gt_of_ne g with A | D
    ·have:=gN.1 (mG hk.lk l p) _ _ o w A;rw[a,n,e]at this;omega
    ·have:=gN.1 (mG hk.lk l p) _ _ w o D;rw[a,n,e]at this;omega
  obtain⟨k1,k2,U,k4,W⟩:=B.aW (x.p.take 4) (λq E=>(P q (List.mem_of_mem_take E)).1) (λq=>by rw[d];exact hd q);have e:Go.Proofs.YtjaogfhcnmjkiaaGreatDoor.aW {h with ls:=(bK h.ls l p).set (jU (bK h.ls l p) l.key) {x with p:=x.p.drop 4}} (x.p.take 4)={Go.Proofs.YtjaogfhcnmjkiaaGreatDoor.aW {h with ls:=bK h.ls l p} (x.p.take 4)with ls:=(bK h.ls l p).set (jU (bK h.ls l p) l.key) {x with p:=x.p.drop 4}}:=kJ (x.p.take 4) {h with ls:=bK h.ls l p} _;rw[<- e];exact⟨k1,λq=>by rw[k2,d],Same.trans (b:={h with ls:=(bK h.ls l p).set (jU (bK h.ls l p) l.key) {x with p:=x.p.drop 4}}) ⟨rfl,rfl,rfl,rfl⟩ U,W⟩
 ·rw[if_neg R];obtain⟨Z,T⟩:=hk.push r m (λy i K=>by
   have s:=Nr hk.lk i;rw[K]at s;omega) hd
  exact⟨Z,T,⟨rfl,rfl,rfl,rfl⟩,rfl⟩
theorem eY.iD (hk:eY h)(hc:cpu<h.aAh)(hi:i<h.live.length):
 eY (h.iD cpu i h.live[i])/\(∀q,cnt (h.iD cpu i h.live[i]).all q=cnt h.all q)/\Same h (h.iD cpu i h.live[i])/\(h.iD cpu i h.live[i]).live=h.live.eraseIdx i:=by
 have hb:=hk.lv _ (gL hi);have c:∀q,cnt ({h with live:=h.live.eraseIdx i}:Hp).all q+hit ⟨h.live[i].a,h.live[i].o,0⟩ q=cnt h.all q:=λq=>by
  have n:=BL hi q;have m:hit ⟨h.live[i].a,h.live[i].o,0⟩ q=hit h.live[i] q:=rfl;rw[dJ,dJ,m];simp only;omega
 have d:eY {h with live:=h.live.eraseIdx i}:=⟨hk.o0,hk.o1,hk.f0,hk.e0,hk.e1,hk.m0,hk.m1,hk.cp,hk.lk,hk.lr,λb hb=>hk.lv b ((List.eraseIdx_sublist _ _).subset hb),hk.vs.sublist (List.eraseIdx_sublist _ _),λq=>by have:=c q;have:=hk.one q;omega⟩
 unfold Hp.iD;simp only;split
 ·obtain⟨f,e,g,j,k⟩:=d.jI hb.1 (λq=>by rw[c];exact hk.one q);exact⟨f,λq=>by rw[e,c],Same.trans (b:={h with live:=h.live.eraseIdx i}) ⟨rfl,rfl,rfl,rfl⟩ g,k⟩
 ·rename_i h0;have l:h.live[i].o=0:=by omega
  rw[l]at c;obtain⟨f,e,g,j⟩:=d.give (cpu:=cpu) hc hb.1.2.2.1 (λq=>by rw[c];exact hk.one q);exact⟨f,λq=>by rw[e,c],Same.trans (b:={h with live:=h.live.eraseIdx i}) ⟨rfl,rfl,rfl,rfl⟩ g,j⟩
theorem UQ {g:Hp}(hk:eY h)(hg:eY g)(hs:Same h g)(i:Nat)(u lo:Bool):g.held i u lo=h.held i u lo:=by
 have e1:g.z1.f=h.z1.f:=by rw[<- hg.e0,<- hk.e0,hs.split]
 have a:g.z1.e=h.z1.e:=by rw[hg.e1,hk.e1]
 unfold Hp.held Hp.min;rw[e1,a,hs.m0,hs.m1]
theorem eY.UR (hk:eY h){l:Ls}{n:Nat}(hl:l.c<h.aAh/\l.z<2/\l.t<3)(h8:∀x∈h.ls,x.key=l.key->x.p.length+(n+1)<=8)(hn:n+1<=8)(he:h.mF l.z 0 l.t hd=aK (h',a)):
 eY h'/\eY {h' with ls:=bK h'.ls l a}/\(∀x∈bK h'.ls l a,x.key=l.key->x.p.length+n<=8)/\Same h {h' with ls:=bK h'.ls l a}:=by
 obtain⟨b,e,m⟩:=hk.mF (by omega) hl.2.2 hl.2.1 he;have g:l.c<h'.aAh/\l.z<2/\l.t<3:=by rw[b.same.aAh];exact hl
 obtain⟨k,o⟩:=b.ok.push (l:=l) (p:=a) g ⟨b.fit.2.2.1,by rw[b.same.split];exact m⟩ (λx f hk=>by rw[e]at f;have:=h8 x f hk;omega) (λq=>by rw[b.c 0 q];exact hk.one q);refine⟨b.ok,k,λx f d=> ?_,Same.trans b.same ⟨rfl,rfl,rfl,rfl⟩⟩;have:=EN b.ok.lk x f d;have r:zX h'.ls l.key+(n+1)<=8:=by
  unfold zX;cases hf:h'.ls.find? λx=>decide (x.key=l.key)with
  | none=>simp only;omega
  | some y=>
   have j:=List.mem_of_find?_eq_some hf;have i:=List.find?_some hf;rw[e]at j;exact h8 y j (of_decide_eq_true i)
 omega
theorem IU (h:sG ls k=true):∃hi:jU ls k<ls.length,ls[jU ls k].key=k:=by
 unfold sG at h;cases he:ls[jU ls k]? with
 | none=>rw[he]at h;cases h
 | some x=>
  rw[he]at h;obtain⟨hi,a⟩:=gK.1 he;exact⟨hi,by rw[a];simpa using h⟩
theorem EO (h:sG ls k=false):∀y,ls[jU ls k]? =aK y->y.key≠k:=λy a=>by
 unfold sG at h;rw[a]at h;simpa using h
theorem JU {l:Ls}(hh:sG h.ls l.key=true)(hi:jU h.ls l.key<h.ls.length):h.single l hd=aK ({h with ls:=if h.ls[jU h.ls l.key].p.length=1 then h.ls.eraseIdx (jU h.ls l.key)else h.ls.set (jU h.ls l.key) {h.ls[jU h.ls l.key]with p:=h.ls[jU h.ls l.key].p.dropLast}},h.ls[jU h.ls l.key].p.getLastD 0):=by
 obtain⟨_,a⟩:=IU hh;unfold Hp.single;rw[gJ hi];simp only[a,if_true]
theorem QF {l:Ls}(hh:sG h.ls l.key=false):h.single l hd=(h.mF l.z 0 l.t hd).map λr=>(r.1.fill l hd 3,r.2):=by
 have a:=EO hh;unfold Hp.single;cases he:h.ls[jU h.ls l.key]? with
 | none=>rfl
 | some x=>simp only[a x he,if_false]
section
open Go.Maps (Keyed)
theorem yV {H:Type}{P:Program}{e:TypeId}(he:P.underlying e=aK .bool){v:Value}{z:DataW H×List MemPlace}(h:plainElem P e v=aK z):∃x,v= .bool x/\z=(.lit (.bool x),[]):=by
 unfold plainElem at h;rw[he]at h;cases v <;> simp at h;exact⟨_,rfl,h.symm⟩
def fQ (w:World)(P:Program)(k e:TypeId)(B n:Nat)(S:Lit->Prop):Prop:=
 ∃D:DataW Unit,w.ownsMap P k (plainElem P e) B n D/\Maps.IsMap D/\∀a,WideAt.IsKeyLit a->(S a->D.atKey a (.lit (.bool false))= .lit (.bool true))/\(¬S a->D.atKey a (.lit (.bool false))= .lit (.bool false))
section
variable {w w':World}{P:Program}{t k e:TypeId}{B n:Nat}{S:Lit->Prop}
theorem fQ.made (w:World)(P:Program)(k e:TypeId):fQ (w.alloc (.map #[] 0)) P k e w.heap.size 0 λ_=>False:=
 ⟨.map [],World.ownsMap_made w P k _,Maps.isMap_empty,λa _=>⟨λh=>h.elim,λ_=>rfl⟩⟩
theorem fQ.lt (h:fQ w P k e B n S):B<w.heap.size:=by
 obtain⟨D,a,_⟩:=h;exact a.lt
theorem fQ.kept (h:fQ w P k e B n S)(hg:w.grownBy w' row)(hne:aK B≠row):fQ w' P k e B n S:=by
 obtain⟨D,a,b⟩:=h;exact⟨D,a.kept hg hne,b⟩
theorem fQ.below (h:fQ w P k e B n S)(hb:Below w.heap.size w w'):fQ w' P k e B n S:=
 h.kept (row:=aJ) ⟨hb.os,hb.tape,hb.output,hb.size,λj a _=>hb.block j a⟩ (by simp)
theorem fQ.imp {S':Lit->Prop}(h:fQ w P k e B n S)(hs:∀x,S x↔S' x):fQ w P k e B n S':=by
 obtain⟨D,i,f,d⟩:=h;exact⟨D,i,f,λa c=>⟨λb=>(d a c).1 ((hs a).2 b),λb=>(d a c).2 λg=>b ((hs a).1 g)⟩⟩
theorem fQ.out (h:fQ w P k e B n S)(K:Keyed P k)(ht:P.underlying t=aK (.map k e))(he:P.underlying e=aK .bool)(hz:(zeroValue e).run P w= .ok (.bool false) w){kl:Lit}(hkey:keyOf P k key=aK kl)(hk:WideAt.IsKeyLit kl)(hno:¬S kl):
 (Instr.lookup t (.map (aK B)) key false).run P w= .ok (.bool false) w:=by
 obtain⟨D,f,_,g⟩:=h;obtain⟨v,i,a,c⟩:=f.lookup K ht hz (plainElem_bool he false) hkey;obtain⟨x,rfl,b⟩:=yV he c;have d:=(g kl hk).2 hno;rw[d]at b;simp only[Prod.mk.injEq,DataW.lit.injEq,Lit.bool.injEq]at b;rw[a,<- b.1]
theorem fQ.put (h:fQ w P k e B n S)(K:Keyed P k)(ht:P.underlying t=aK (.map k e))(he:P.underlying e=aK .bool)(hn:n<maxLen){kl:Lit}(hkey:keyOf P k key=aK kl)(hk:WideAt.IsKeyLit kl):
 ∃w',(Instr.mapUpdate t (.map (aK B)) key (.bool true)).run P w= .ok () w'/\fQ w' P k e B (n+1) (λx=>x=kl∨S x)/\w.grownBy w' (aK B):=by
 obtain⟨D,i,c,d⟩:=h;obtain⟨w',b,g,l⟩:=i.update K ht hn hkey (plainElem_bool he true);refine⟨w',b,⟨_,g,c.put _ _,λx f=> ?_⟩,l⟩;by_cases a:x=kl
 ·subst a;exact⟨λ_=>Maps.atKey_put_same c hk _ _,λh=>absurd (Or.inl rfl) h⟩
 ·rw[Maps.atKey_put_other a];exact⟨λh=>(d x f).1 (h.resolve_left a),λh=>(d x f).2 λj=>h (Or.inr j)⟩
end
end
structure Safe (X:Nat->Prop)(w w':World):Prop where
 os:w'.os=w.os
 tape:w'.tape=w.tape
 output:w'.output=w.output
 size:w.heap.size<=w'.heap.size
 block:∀k,k<w.heap.size->X k->w'.heap[k]? =w.heap[k]?
section
variable {X Y:Nat->Prop}{a b c w w':World}{B:Nat}
theorem Safe.refl (X:Nat->Prop)(w:World):Safe X w w:=⟨rfl,rfl,rfl,gT _,λ_ _ _=>rfl⟩
theorem Safe.trans (h:Safe X a b)(k:Safe X b c):Safe X a c:=⟨k.os.trans h.os,k.tape.trans h.tape,k.output.trans h.output,gQ h.size k.size,λj d e=>(k.block j (gI d h.size) e).trans (h.block j d e)⟩
theorem Safe.sub (h:Safe X a b)(hy:∀k,k<a.heap.size->Y k->X k):Safe Y a b:=⟨h.os,h.tape,h.output,h.size,λj c d=>h.block j c (hy j c d)⟩
theorem Safe.jD (h:Below w.heap.size w w'):Safe X w w':=⟨h.os,h.tape,h.output,h.size,λk a _=>h.block k a⟩
theorem Safe.oD (h:w.grownBy w' row)(hr:∀k,X k->aK k≠row):Safe X w w':=⟨h.os,h.tape,h.output,h.size,λk a b=>h.block k a (hr k b)⟩
theorem Safe.then (h:Safe X a b)(k:Below b.heap.size b c):Safe X a c:=h.trans (.jD k)
theorem Safe.below (h:Safe X w w')(hX:∀k,k<B->X k)(hB:B<=w.heap.size):Below B w w':=⟨h.os,h.tape,h.output,h.size,λk a=>h.block k (gI a hB) (hX k a)⟩
theorem Safe.after (h0:Below B a w)(h:Safe X w w')(hX:∀k,k<B->X k)(hB:B<=w.heap.size):Below B a w':=h0.trans (h.below hX hB)
theorem Safe.set (h:Safe X a b)(hg:¬X g)(i:Nat)(u:Value):Safe X a (b.setCell ⟨g,i,aJ⟩ u):=h.trans ⟨rfl,rfl,rfl,by simp[World.setCell],λk d c=>Below.heap_setCell _ _ _ _ (λe=>hg (by rw[<- show k=g from e];exact c))⟩
theorem Safe.cell (h:Safe X w w'){p:Addr}(hp:p.block<w.heap.size)(hx:X p.block):w'.cell? p=w.cell? p:=World.cell?_of_block (w:=w) (h.block p.block hp hx)
theorem Safe.frozen (h:Safe X w w'){p:Addr}(hp:p.block<w.heap.size)(hx:X p.block):w'.frozen? p=w.frozen? p:=World.frozen?_of_block (w:=w) (h.block p.block hp hx)
theorem Safe.box (h:Safe X w w')(hc:∀o,w.cell? ⟨g,o,aJ⟩=vs[o]?)(hg:g<w.heap.size)(hx:X g)(o:Nat):w'.cell? ⟨g,o,aJ⟩=vs[o]? :=(h.cell (p:=⟨g,o,aJ⟩) hg hx).trans (hc o)
theorem Safe.Xe (h:Safe X w w')(hc:∀o,w.frozen? ⟨g,o,aJ⟩=false)(hg:g<w.heap.size)(hx:X g)(o:Nat):w'.frozen? ⟨g,o,aJ⟩=false:=(h.frozen (p:=⟨g,o,aJ⟩) hg hx).trans (hc o)
end
theorem Dw (t:Nat):∀(l:List Bk) (k:Nat) (hk:k<l.length),(flat aAx l).set (k*3+2) (vI t)=flat aAx (l.set k {l[k]with t:=t})
 | x::l,0,_=>by rw[dS,gG,dS];rfl
 | x::l,k+1,hk=>by
  have hk':k<l.length:=by simpa using hk
  rw[dS,gH,dS,List.set_append_right _ _ (by rw[aAu];omega),aAu,show(k+1)*3+2-3=k*3+2 by omega,Dw t l k hk'];rfl
theorem iH.aDb {n1 n2 c1 c2:Nat}(h:iH W bs a1 a2 n1 n2 c1 c2 z)(hj:j<n2)(hg:a2=aK ⟨g,0,aJ⟩)(t:Nat):iH (W.setCell ⟨g,j,aJ⟩ (aB aI (t:Int))) bs a1 a2 n1 n2 c1 c2 {z with y:=z.y.set j t}:=by
 subst hg;have a:=(World.ownsRow.stored h.o2 j (vI t)).1;rw[IZ]at a;exact⟨h.l1,by simp only[List.length_set];exact h.l2,bC h.o1 (λe=>Ag h.o1 h.o2 (by decide) g e rfl) _,a⟩
theorem iH.aAN {n1 n2 c1 c2:Nat}(h:iH W bs a1 a2 n1 n2 c1 c2 z)(hk:k<z.l.length)(hg:a1=aK ⟨g,0,aJ⟩)(t:Nat):iH (W.setCell ⟨g,k*3+2,aJ⟩ (aB aI (t:Int))) bs a1 a2 n1 n2 c1 c2 {z with l:=z.l.set k {z.l[k]with t:=t}}:=by
 subst hg;have a:=(World.ownsRow.stored h.o1 (k*3+2) (vI t)).1;rw[Dw t z.l k hk]at a;exact⟨by simp only[List.length_set];exact h.l1,h.l2,a,bC h.o2 (λe=>Ag h.o1 h.o2 (by decide) g rfl e) _⟩
structure qE (w W:World)(bs:Nat)(a1 a2:Option Addr)(n1 n2 c1 c2 f e:Nat)(b:Bk)(z:Zn):Prop where
 k3:∀i,W.cell? ⟨w.heap.size,i,aJ⟩=(#[aB aI f,aB aI e,aA a1 n1 c1,aA a2 n2 c2]:Array Value)[i]?
 k6:∀i,W.cell? ⟨w.heap.size+1,i,aJ⟩=(#[aB aI b.a,aB aI b.o,aB aI b.t]:Array Value)[i]?
 own:iH W bs a1 a2 n1 n2 c1 c2 z
 hi:w.heap.size+2<=W.heap.size
 bw:Below bs w W
 g1:∀g,a1=aK ⟨g,0,aJ⟩->g<w.heap.size/\bs<=g
 g2:∀g,a2=aK ⟨g,0,aJ⟩->g<w.heap.size/\bs<=g
section
variable {w W W':World}{bs:Nat}{a1 a2:Option Addr}{n1 n2 c1 c2 f e:Nat}{b:Bk}{z:Zn}
theorem qE.below (h:qE w W bs a1 a2 n1 n2 c1 c2 f e b z)(hb:Below W.heap.size W W')(hbs:bs<=w.heap.size):qE w W' bs a1 a2 n1 n2 c1 c2 f e b z:=by
 have a:=h.hi;exact⟨aAp h.k3 (by omega) hb,aAp h.k6 (by omega) hb,h.own.below hb,gQ a hb.size,Du hb h.bw (by omega),h.g1,h.g2⟩
theorem qE.aDb (h:qE w W bs a1 a2 n1 n2 c1 c2 f e b z)(hj:j<n2)(hg:a2=aK ⟨g,0,aJ⟩)(t:Nat):qE w (W.setCell ⟨g,j,aJ⟩ (aB aI (t:Int))) bs a1 a2 n1 n2 c1 c2 f e b {z with y:=z.y.set j t}:=by
 have a:=h.g2 g hg;exact⟨aAc h.k3 (by omega) _ _,aAc h.k6 (by omega) _ _,h.own.aDb hj hg t,by simpa using h.hi,h.bw.setCell a.2 _,h.g1,h.g2⟩
theorem qE.aAN (h:qE w W bs a1 a2 n1 n2 c1 c2 f e b z)(hk:k<z.l.length)(hg:a1=aK ⟨g,0,aJ⟩)(t:Nat):qE w (W.setCell ⟨g,k*3+2,aJ⟩ (aB aI (t:Int))) bs a1 a2 n1 n2 c1 c2 f e b {z with l:=z.l.set k {z.l[k]with t:=t}}:=by
 have a:=h.g1 g hg;exact⟨aAc h.k3 (by omega) _ _,aAc h.k6 (by omega) _ _,h.own.aAN hk hg t,by simpa using h.hi,h.bw.setCell a.2 _,h.g1,h.g2⟩
end
def aAQ (fr tp t:Nat)(l:List Bk)(k:Nat):List Bk:=(l.take k).map (pU fr tp t)++l.drop k
theorem Jb (fr tp t:Nat)(l:List Bk):aAQ fr tp t l l.length=l.map (pU fr tp t):=by simp[aAQ]
theorem uT (fr tp t:Nat)(l:List Bk)(k:Nat):(aAQ fr tp t l k).length=l.length:=by
 unfold aAQ;rw[gTb,gTe,gTc,gTd];omega
theorem Vr (fr tp t:Nat)(l:List Bk)(k:Nat)(hk:k<l.length):(aAQ fr tp t l k)[k]? =aK l[k]:=by
 unfold aAQ;rw[List.getElem?_append_right (by rw[gTe,gTc];omega),gTe,gTc,List.getElem?_drop,show k+(k-min k l.length)=k by omega];exact gJ hk
theorem Ai (fr tp t:Nat)(l:List Bk)(k:Nat)(hk:k<l.length)(hk2:k<(aAQ fr tp t l k).length):(aAQ fr tp t l k)[k]=l[k]:=by
 have h:=Vr fr tp t l k hk;rw[gJ hk2]at h;exact gP h
theorem EX (fr tp t:Nat)(l:List Bk)(k:Nat)(hk:k<l.length):aAQ fr tp t l (k+1)=(aAQ fr tp t l k).set k (pU fr tp t l[k]):=by
 unfold aAQ;rw[List.take_succ_eq_append_getElem hk,List.map_append,List.drop_eq_getElem_cons hk,List.set_append_right _ _ (by rw[gTe,gTc];omega)];rw[show k-((l.take k).map (pU fr tp t)).length=0 by rw[gTe,gTc];omega,gG,List.append_assoc];rfl
theorem EY (fr tp t:Nat)(l:List Bk)(k:Nat)(hk:k<l.length)(h:¬(fr<=l[k].a/\l[k].fin<=tp)):aAQ fr tp t l (k+1)=aAQ fr tp t l k:=by
 have e:pU fr tp t l[k]=l[k]:=by unfold pU;rw[if_neg h]
 rw[EX _ _ _ _ _ hk,e];have b:k<(aAQ fr tp t l k).length:=by rw[uT];exact hk
 have c:=List.set_getElem_self b;rw[Ai fr tp t l k hk b]at c;exact c
theorem Jc (fr tp t:Nat)(l:List Bk)(k:Nat)(hk:k<l.length)(hk2:k<(aAQ fr tp t l k).length)(h:fr<=l[k].a/\l[k].fin<=tp):aAQ fr tp t l (k+1)=(aAQ fr tp t l k).set k {(aAQ fr tp t l k)[k]with t:=t}:=by
 rw[EX _ _ _ _ _ hk,Ai fr tp t l k hk hk2];unfold pU;rw[if_pos h]
theorem pV (bs:Nat)(a1 a2:Option Addr)(n1 n2 c1 c2:Nat)(z:Zn)(i t:Nat)(hi:i<z.l.length)(w:World)(hown:iH w bs a1 a2 n1 n2 c1 c2 z)(hz:z.ok)(ht:t<3)(hbs:bs<=w.heap.size):
 Calls prog 174 #[aC #[aB aI z.f,aB aI z.e,aA a1 n1 c1,aA a2 n2 c2],aB aI i,aB aI t] w λev w'=>ev=aN (aG #[])/\iH w' bs a1 a2 n1 n2 c1 c2 (z.steal z.l[i] t)/\Below bs w w':=by
 have hlen:z.l.length<=256:=gQ (uM.length_le hz.2 (λb hb=>(hz.2.fit b hb).1.2.2.1)) hz.1.e2;have hee:=hz.1.e2;have l1:=hown.l1;have l2:=hown.l2;have m:=(hz.2.fit _ (gL hi)).1;obtain⟨K3,F3,hsz,hbw⟩:=boxes1 w #[aB aI (z.f:Int),aB aI (z.e:Int),aA a1 n1 c1,aA a2 n2 c2] 79;have Z:=hown.below hbw;obtain⟨d,off,ha1,hbb,hc⟩:=aAw aAu (by decide) Z.at.r1 hi;obtain⟨gg,vg,eg1,hg2,hg3,_⟩:=fH hown.o1 (i*3) (by rw[flat_length aAu];omega);have hbg:d=gg/\off=0:=by rw[ha1]at eg1;simpa using eg1
 obtain⟨rfl,rfl⟩:=hbg;obtain rfl:=ha1;rw[Nat.zero_add]at hc;obtain⟨U,hc1,P⟩:=bH (o:=i*3) hc;have hG2:∀g,a2=aK ⟨g,0,aJ⟩->g<w.heap.size/\bs<=g:=λg hg=>by have:=hown.o2.lt g (by subst hg;rfl);omega
 have hin:i<n1:=by omega
 have hbt:=(hz.2.fit _ (gL hi)).2;generalize hb:z.l[i]=b at*;have HB:=gO hb;clear hb hc;have hae:b.a<=256:=by have:=m.2.2.1;omega
 have hfin:=wE hz.1.e16 m;have hpw:=yX m.1;have Y:=aAq (w.alloc (aO #[aB aI (z.f:Int),aB aI (z.e:Int),aA (aK ⟨d,0,aJ⟩) n1 c1,aA a2 n2 c2] 79)) (aO #[aB aI (b.a:Int),aB aI (b.o:Int),aB aI (b.t:Int)] 82);have aDc:=gW hbw Y;have hG1:∀g,aK (⟨d,0,aJ⟩:Addr)=aK ⟨g,0,aJ⟩->g<w.heap.size/\bs<=g:=λg hg=>by
  obtain rfl:d=g:=by simpa using hg
  exact⟨hg3,hg2⟩
 have I0:qE w ((w.alloc (aO #[aB aI (z.f:Int),aB aI (z.e:Int),aA (aK ⟨d,0,aJ⟩) n1 c1,aA a2 n2 c2] 79)).alloc (aO #[aB aI (b.a:Int),aB aI (b.o:Int),aB aI (b.t:Int)] 82)) bs (aK ⟨d,0,aJ⟩) a2 n1 n2 c1 c2 z.f z.e b z:=
  ⟨aAp K3 (by omega) Y,λi=>by have:=aQ (w.alloc (aO #[aB aI (z.f:Int),aB aI (z.e:Int),aA (aK ⟨d,0,aJ⟩) n1 c1,aA a2 n2 c2] 79)) #[aB aI (b.a:Int),aB aI (b.o:Int),aB aI (b.t:Int)] 82 i;rwa [World.size_alloc]at this,hown.below aDc,by simp,aDc.mono hbs,hG1,hG2⟩
 have HI:=gO I0;clear I0 K3 F3 Y;go_enter func174,ntmps174
 by_cases ho2:b.o<2
 ·go_wp2_with fail
  refine bodyPost_ret (v:=aG #[]) (by simp[results,results174,go_sem]) rfl ⟨rfl,?_,?_⟩
  ·unfold Zn.steal;rw[if_pos ho2];exact HI.out.own
  ·exact HI.out.bw
 ·have aNn:¬(b.o:Int)<2:=by omega
  go_wp2_with fail
  clear U hc1 P;generalize (w.alloc _).alloc _=w0 at*;go_loopw [7] (λs7 wr=>∃j:Nat,j<=2^b.o/\s7=aB aI ((b.a+j:Nat):Int)/\Hid (qE w wr bs (aK ⟨d,0,aJ⟩) a2 n1 n2 c1 c2 z.f z.e b {z with y:=rY z.y z.f b.a t j})) (λs7 _=>b.fin-(intOf s7).toNat)
  case atStart=>exact⟨0,gU _,by simp,HI⟩
  case round=>
   obtain⟨j,hj,rfl,HK⟩:=hrel;clear HI hown Z;have I:=HK.out;have hHi:=I.hi;have N:=I.k6 0;have V:=I.k6 1;have R:=I.k6 2;simp only[gB,gC,gD]at N V R;clear I;have T:w.heap.size+1<wr.heap.size:=by omega
   go_wp2_with fail
   refine(kF b _ m.1 (by omega)).mono ?_;rintro ev w1 ⟨rfl,hb1⟩;have HK1:=gO (HK.out.below hb1 hbs);clear hb1 N V R HK;have I:=HK1.out;have aNo:=I.hi;have N:=I.k6 0;have V:=I.k6 1;have R:=I.k6 2;have k30:=I.k3 0;have A:=I.k3 2;have k33:=I.k3 3;simp only[gB,gC,gD]at N V R k30 A k33;clear T;have T:w.heap.size+1<w1.heap.size:=by omega
   by_cases hlt:j<2^b.o
   ·have hJ:(b.a+j-z.f)/8<z.y.length:=by rw[hz.1.len];have:=m.2.1;have:=hz.1.f16;have:=hz.1.e16;omega
    have hjx:((b.a:Int)+j-z.f)/8=(((b.a+j-z.f)/8:Nat):Int):=by have:=m.2.1;omega
    have hfa:(z.f:Int)<=b.a+j:=by have:=m.2.1;omega
    have dl:(b.a:Int)+j<b.fin:=by unfold Bk.fin;omega
    have hset:Hid (rY z.y z.f b.a t (j+1)=(rY z.y z.f b.a t j).set ((b.a+j-z.f)/8) t):=rfl;have hlen2:=qO z.y z.f b.a t j;generalize (b.a+j-z.f)/8=J at*;have hJn:(J:Int)<n2:=by omega
    have hJ2:J<n2:=by omega
    obtain⟨g,v,eg,hgb,hgs,K,L⟩:=fH I.own.o2 J (by rw[flat_length bU];show J<(rY z.y z.f b.a t j).length*1;omega);obtain rfl:=eg;have F:=gO (I.aDb hJ2 rfl t);clear I HK1;go_wp2
    go_roundw
    case rel=>exact⟨j+1,by omega,by go_num,by rw[hset.out];exact F⟩
    case measure=>simp[intOf];omega
   ·obtain rfl:j=2^b.o:=by omega
    have dl:¬(b.a:Int)+2^b.o<b.fin:=by unfold Bk.fin;push_cast;omega
    clear I;go_wp2_with fail
    refine(kF b _ m.1 (by omega)).mono ?_;rintro ev w2 ⟨rfl,hb2⟩;have F:=gO (HK1.out.below hb2 hbs);clear hb2 N V R HK1 k30 A k33 T
    dsimp only
    have hdv:(b.a:Int)/8*8=((b.a/8*8:Nat):Int):=by omega
    simp only[hdv];clear hdv;have hFR:b.a/8*8<=256:=by omega
    obtain⟨c,aDd⟩:∃c,b.a/8*8=c:=⟨_,rfl⟩
    rw[aDd]at hFR ⊢;have wB:=gO aDd;clear aDd;have hmz:aAQ c (max b.fin (c+8)) t z.l 0=z.l:=rfl;have A:=F.out.k3 2;simp only[gB,gC,gD]at A;by_cases hmx:c+8<=b.fin
    ·have aIM:(c:Int)+8<=(b.fin:Int):=by omega
     have aDe:max b.fin (c+8)=b.fin:=by omega
     go_wp2
     go_loopw [10,11,49] (λ_ _ D wr=>∃k:Nat,k<=n1/\D=aB aI (k:Int)/\Hid (qE w wr bs (aK ⟨d,0,aJ⟩) a2 n1 n2 c1 c2 z.f z.e b {z with l:=aAQ c (b.fin) t z.l k,y:=rY z.y z.f b.a t (2^b.o)})) (λ_ _ D _=>n1-(intOf D).toNat)
     case atStart=>exact⟨0,gU _,rfl,F⟩
     case round=>
      obtain⟨k,hk,rfl,B⟩:=hrel;clear F A;by_cases hlt:k<n1
      ·have r:k<z.l.length:=by omega
       have q:k<(aAQ c (b.fin) t z.l k).length:=by rw[uT];exact r
       have I:=B.out;have hHi:=I.hi;obtain⟨bb',M,e',Ky,E⟩:=aAw aAu (by decide) I.own.at.r1 q;obtain⟨rfl,rfl⟩:d=bb'/\0=M:=by simpa using e'
       rw[Nat.zero_add,Ai c (b.fin) t z.l k r q]at E;obtain⟨U,hc1,P⟩:=bH (o:=k*3) E;have Q:=(hz.2.fit _ (gL r)).1;have HP:Hid (c<=z.l[k].a/\z.l[k].fin<=b.fin->∀W,qE w W bs (aK ⟨d,0,aJ⟩) a2 n1 n2 c1 c2 z.f z.e b {z with l:=aAQ c (b.fin) t z.l k,y:=rY z.y z.f b.a t (2^b.o)}->qE w (W.setCell ⟨d,k*3+2,aJ⟩ (aB aI (t:Int))) bs (aK ⟨d,0,aJ⟩) a2 n1 n2 c1 c2 z.f z.e b {z with l:=aAQ c (b.fin) t z.l (k+1),y:=rY z.y z.f b.a t (2^b.o)}):=by
        intro h W hW;have h1:=hW.aAN q rfl t;rw[Jc c (b.fin) t z.l k r q h];exact h1
       have HS:=gO (EY c (b.fin) t z.l k r);obtain⟨g5,v5,e5,_,_,K,L⟩:=fH I.own.o1 (k*3+2) (by rw[flat_length aAu];show k*3+2<(aAQ c (b.fin) t z.l k).length*3;omega);obtain rfl:d=g5:=by simpa using e5
       clear E I e' q e5;generalize z.l[k]=x at*;have T:w.heap.size+1<wr.heap.size:=by omega
       have u:=aAq wr (aO #[aB aI (x.a:Int),aB aI (x.o:Int),aB aI (x.t:Int)] 82);have H:=gO (B.out.below u hbs);have Hr:=(u.cell (p:=⟨d,k*3+2,aJ⟩) Ky).trans K;have QV:=(u.frozen (p:=⟨d,k*3+2,aJ⟩) Ky).trans L;have K11:=aQ wr #[aB aI (x.a:Int),aB aI (x.o:Int),aB aI (x.t:Int)] 82;have hkn:(k:Int)<n1:=by omega
       have h3a:x.a<=1000:=by have:=Q.2.2.1;omega
       have O:=gI Ky u.size;clear K L Ky;by_cases X:c<=x.a
       ·have aDf:(c:Int)<=x.a:=by omega
        go_wp2_with fail
        clear u U hc1 P K11;generalize wr.alloc _=w4 at*;refine(kF x _ Q.1 h3a).mono ?_;rintro ev w5 ⟨rfl,C⟩;have G:=gO (H.out.below C hbs);have aIO:=(C.cell (p:=⟨d,k*3+2,aJ⟩) O).trans Hr;have aIP:=(C.frozen (p:=⟨d,k*3+2,aJ⟩) O).trans QV;have A:=G.out.k3 2;simp only[gB,gC,gD]at A;clear C H B Hr QV
        dsimp only
        by_cases S:x.fin<=b.fin
        ·have n:(x.fin:Int)<=((b.fin:Nat):Int):=by omega
         have s:=gO (HP.out ⟨X,S⟩ _ G.out)
         push_cast at n
         go_wp2
         go_roundw
         case rel=>exact⟨k+1,by omega,by go_num,s⟩
         case measure=>simp[intOf];omega
        ·have n:¬(x.fin:Int)<=((b.fin:Nat):Int):=by omega
         push_cast at n
         have s:Hid (qE w w5 bs (aK ⟨d,0,aJ⟩) a2 n1 n2 c1 c2 z.f z.e b {z with l:=aAQ c (b.fin) t z.l (k+1),y:=rY z.y z.f b.a t (2^b.o)}):=by
          rw[HS.out (λh=>S h.2)];exact G
         go_wp2
         go_roundw
         case rel=>exact⟨k+1,by omega,by go_num,s⟩
         case measure=>simp[intOf];omega
       ·have aDf:¬(c:Int)<=x.a:=by omega
        have s:Hid (qE w (wr.alloc (aO #[aB aI (x.a:Int),aB aI (x.o:Int),aB aI (x.t:Int)] 82)) bs (aK ⟨d,0,aJ⟩) a2 n1 n2 c1 c2 z.f z.e b {z with l:=aAQ c (b.fin) t z.l (k+1),y:=rY z.y z.f b.a t (2^b.o)}):=by
         rw[HS.out (λh=>X h.1)];exact H
        clear Hr QV;go_wp2
        go_roundw
        case rel=>exact⟨k+1,by omega,by go_num,s⟩
        case measure=>simp[intOf];omega
      ·obtain rfl:k=n1:=by omega
       have HF:Hid (qE w wr bs (aK ⟨d,0,aJ⟩) a2 k n2 c1 c2 z.f z.e b (z.steal z.l[i] t)):=by
        have hh:=HB.out;subst hh;have hf:=wB.out;subst hf;unfold Zn.steal;rw[if_neg ho2,aDe];have:=B.out;rw[show k=z.l.length by omega]at this;rw[Jb]at this;rw[show k=z.l.length by omega];exact this
       go_wp2
       refine bodyPost_end (v:=aG #[]) (by simp[results,results174,go_sem]) rfl ⟨rfl,?_,?_⟩
       ·have h7:=HF.out.own;rw[HB.out]at h7;exact h7
       ·exact HF.out.bw
    ·have aIM:¬(c:Int)+8<=(b.fin:Int):=by omega
     have aDe:max b.fin (c+8)=c+8:=by omega
     go_wp2
     go_loopw [10,11,49] (λ_ _ D wr=>∃k:Nat,k<=n1/\D=aB aI (k:Int)/\Hid (qE w wr bs (aK ⟨d,0,aJ⟩) a2 n1 n2 c1 c2 z.f z.e b {z with l:=aAQ c (c+8) t z.l k,y:=rY z.y z.f b.a t (2^b.o)})) (λ_ _ D _=>n1-(intOf D).toNat)
     case atStart=>exact⟨0,gU _,rfl,F⟩
     case round=>
      obtain⟨k,hk,rfl,B⟩:=hrel;clear F A;by_cases hlt:k<n1
      ·have r:k<z.l.length:=by omega
       have q:k<(aAQ c (c+8) t z.l k).length:=by rw[uT];exact r
       have I:=B.out;have hHi:=I.hi;obtain⟨bb',M,e',Ky,E⟩:=aAw aAu (by decide) I.own.at.r1 q;obtain⟨rfl,rfl⟩:d=bb'/\0=M:=by simpa using e'
       rw[Nat.zero_add,Ai c (c+8) t z.l k r q]at E;obtain⟨U,hc1,P⟩:=bH (o:=k*3) E;have Q:=(hz.2.fit _ (gL r)).1;have HP:Hid (c<=z.l[k].a/\z.l[k].fin<=c+8->∀W,qE w W bs (aK ⟨d,0,aJ⟩) a2 n1 n2 c1 c2 z.f z.e b {z with l:=aAQ c (c+8) t z.l k,y:=rY z.y z.f b.a t (2^b.o)}->qE w (W.setCell ⟨d,k*3+2,aJ⟩ (aB aI (t:Int))) bs (aK ⟨d,0,aJ⟩) a2 n1 n2 c1 c2 z.f z.e b {z with l:=aAQ c (c+8) t z.l (k+1),y:=rY z.y z.f b.a t (2^b.o)}):=by
        intro h W hW;have h1:=hW.aAN q rfl t;rw[Jc c (c+8) t z.l k r q h];exact h1
       have HS:=gO (EY c (c+8) t z.l k r);obtain⟨g5,v5,e5,_,_,K,L⟩:=fH I.own.o1 (k*3+2) (by rw[flat_length aAu];show k*3+2<(aAQ c (c+8) t z.l k).length*3;omega);obtain rfl:d=g5:=by simpa using e5
       clear E I e' q e5;generalize z.l[k]=x at*;have T:w.heap.size+1<wr.heap.size:=by omega
       have u:=aAq wr (aO #[aB aI (x.a:Int),aB aI (x.o:Int),aB aI (x.t:Int)] 82);have H:=gO (B.out.below u hbs);have Hr:=(u.cell (p:=⟨d,k*3+2,aJ⟩) Ky).trans K;have QV:=(u.frozen (p:=⟨d,k*3+2,aJ⟩) Ky).trans L;have K11:=aQ wr #[aB aI (x.a:Int),aB aI (x.o:Int),aB aI (x.t:Int)] 82;have hkn:(k:Int)<n1:=by omega
       have h3a:x.a<=1000:=by have:=Q.2.2.1;omega
       have O:=gI Ky u.size;clear K L Ky;by_cases X:c<=x.a
       ·have aDf:(c:Int)<=x.a:=by omega
        go_wp2_with fail
        clear u U hc1 P K11;generalize wr.alloc _=w4 at*;refine(kF x _ Q.1 h3a).mono ?_;rintro ev w5 ⟨rfl,C⟩;have G:=gO (H.out.below C hbs);have aIO:=(C.cell (p:=⟨d,k*3+2,aJ⟩) O).trans Hr;have aIP:=(C.frozen (p:=⟨d,k*3+2,aJ⟩) O).trans QV;have A:=G.out.k3 2;simp only[gB,gC,gD]at A;clear C H B Hr QV
        dsimp only
        by_cases S:x.fin<=c+8
        ·have n:(x.fin:Int)<=((c+8:Nat):Int):=by omega
         have s:=gO (HP.out ⟨X,S⟩ _ G.out)
         push_cast at n
         go_wp2
         go_roundw
         case rel=>exact⟨k+1,by omega,by go_num,s⟩
         case measure=>simp[intOf];omega
        ·have n:¬(x.fin:Int)<=((c+8:Nat):Int):=by omega
         push_cast at n
         have s:Hid (qE w w5 bs (aK ⟨d,0,aJ⟩) a2 n1 n2 c1 c2 z.f z.e b {z with l:=aAQ c (c+8) t z.l (k+1),y:=rY z.y z.f b.a t (2^b.o)}):=by
          rw[HS.out (λh=>S h.2)];exact G
         go_wp2
         go_roundw
         case rel=>exact⟨k+1,by omega,by go_num,s⟩
         case measure=>simp[intOf];omega
       ·have aDf:¬(c:Int)<=x.a:=by omega
        have s:Hid (qE w (wr.alloc (aO #[aB aI (x.a:Int),aB aI (x.o:Int),aB aI (x.t:Int)] 82)) bs (aK ⟨d,0,aJ⟩) a2 n1 n2 c1 c2 z.f z.e b {z with l:=aAQ c (c+8) t z.l (k+1),y:=rY z.y z.f b.a t (2^b.o)}):=by
         rw[HS.out (λh=>X h.1)];exact H
        clear Hr QV;go_wp2
        go_roundw
        case rel=>exact⟨k+1,by omega,by go_num,s⟩
        case measure=>simp[intOf];omega
      ·obtain rfl:k=n1:=by omega
       have HF:Hid (qE w wr bs (aK ⟨d,0,aJ⟩) a2 k n2 c1 c2 z.f z.e b (z.steal z.l[i] t)):=by
        have hh:=HB.out;subst hh;have hf:=wB.out;subst hf;unfold Zn.steal;rw[if_neg ho2,aDe];have:=B.out;rw[show k=z.l.length by omega]at this;rw[Jb]at this;rw[show k=z.l.length by omega];exact this
       go_wp2
       refine bodyPost_end (v:=aG #[]) (by simp[results,results174,go_sem]) rfl ⟨rfl,?_,?_⟩
       ·have h7:=HF.out.own;rw[HB.out]at h7;exact h7
       ·exact HF.out.bw
structure Rs where
 e:TypeId
 k:Nat
 v:Value
 n:Nat
 xs:List Value
def Rs.on (r:Rs)(W:World)(base:Nat):Prop:=W.ownsRow base r.e r.k r.v r.n r.xs
def Rs.off (a b:Rs):Prop:=∀g,a.v.ownBlock=aK g->b.v.ownBlock≠aK g
theorem Rs.off.symm {a b:Rs}(h:a.off b):b.off a:=λg d c=>h g c d
structure dL (W:World)(base:Nat)(rs:List Rs):Prop where
 each:∀r∈rs,r.on W base
 Hu:rs.Pairwise Rs.off
section
variable {W W':World}{lH:Nat}{rs:List Rs}
theorem dL.below (h:dL W lH rs)(hb:Below W.heap.size W W'):dL W' lH rs:=⟨λr a=>own_below (h.each r a) hb (gT _),h.Hu⟩
theorem dL.base {base':Nat}(h:dL W lH rs)(hb:base'<=lH):dL W base' rs:=⟨λr a=>own_base (h.each r a) hb,h.Hu⟩
theorem dL.ne (h:dL W lH rs)(hg:g<lH∨W.heap.size<=g):∀r∈rs,r.v.ownBlock≠aK g:=λr a=>own_ne (h.each r a) hg
theorem dL.far (h:dL W lH rs)(hg:∀r∈rs,r.v.ownBlock≠aK g)(i:Nat)(u:Value):dL (W.setCell ⟨g,i,aJ⟩ u) lH rs:=⟨λr a=>bC (h.each r a) (hg r a) u,h.Hu⟩
theorem dL.at (h:dL W lH rs)(hi:i<rs.length):rs[i].on W lH:=h.each _ (gL hi)
theorem dL.off (h:dL W lH rs)(hi:i<rs.length)(hj:j<rs.length)(hne:i≠j):rs[i].off rs[j]:=by
 rcases Nat.lt_or_gt_of_ne hne with b | a
 ·exact gN.1 h.Hu i j hi hj b
 ·exact(gN.1 h.Hu j i hj hi a).symm
theorem KF {rs:List Rs}{r':Rs}(hd:rs.Pairwise Rs.off)(hi:i<rs.length)(h:∀j (hj:j<rs.length),j≠i->r'.off rs[j]):(rs.set i r').Pairwise Rs.off:=by
 rw[gN];intro a b c hb d;rw[List.length_set]at c hb;rw[List.getElem_set,List.getElem_set];by_cases f:i=a
 ·subst f;rw[if_pos rfl,if_neg (by omega)];exact h b hb (by omega)
 ·rw[if_neg f];by_cases e:i=b
  ·subst e;rw[if_pos rfl];exact(h a c (by omega)).symm
  ·rw[if_neg e];exact gN.1 hd a b c hb d
theorem nS {rs:List Rs}{r' r:Rs}(h:r∈rs.set i r'):r=r'∨∃j,∃(hj:j<rs.length),j≠i/\r=rs[j]:=by
 obtain⟨j,hj,rfl⟩:=List.getElem_of_mem h;rw[List.length_set]at hj;rw[List.getElem_set];by_cases a:i=j
 ·rw[if_pos a];exact .inl rfl
 ·rw[if_neg a];exact .inr ⟨j,hj,λe=>a e.symm,rfl⟩
theorem dL.grown (h:dL W lH rs)(hi:i<rs.length){r':Rs}(hg:W.grownBy W' rs[i].v.ownBlock)(ho:r'.on W' lH)(hn:∀g,r'.v.ownBlock=aK g->rs[i].v.ownBlock=aK g∨W.heap.size<=g):dL W' lH (rs.set i r'):=by
 have c:∀j (b:j<rs.length),j≠i->r'.off rs[j]:=λj b a g n f=>by
  rcases hn g n with d | d
  ·exact h.off hi b (λe=>a e.symm) g d f
  ·exact own_ne (h.at b) (.inr d) f
 refine⟨λr m=> ?_,KF h.Hu hi c⟩;rcases nS m with rfl | ⟨j,b,a,rfl⟩
 ·exact ho
 ·exact jL (h.at b) hg (λk l e=>h.off hi b (λe=>a e.symm) k e l)
theorem dL.swap (h:dL W lH rs)(hi:i<rs.length){r':Rs}(ho:r'.on W bs)(hb:lH<=bs)(hbs:∀j (hj:j<rs.length),j≠i->∀g,rs[j].v.ownBlock=aK g->g<bs):dL W lH (rs.set i r'):=by
 refine⟨λr c=> ?_,KF h.Hu hi λj hj a g d b=> ?_⟩
 ·rcases nS c with rfl | ⟨j,hj,a,rfl⟩
  ·exact own_base ho hb
  ·exact h.at hj
 ·have f:=hbs j hj a g b;have e:=(ho.lt g d).1;omega
theorem dL.cell (h:dL W lH rs)(hi:i<rs.length){c:Nat}(hv:rs[i].v=aA (aK ⟨g,0,aJ⟩) rs[i].n c)(j:Nat)(u:Value)(hu:u.oneCell'=true):dL (W.setCell ⟨g,j,aJ⟩ u) lH (rs.set i {rs[i]with xs:=rs[i].xs.set j u}):=by
 have hb:rs[i].v.ownBlock=aK g:=by rw[hv];rfl
 refine⟨λr k=> ?_,KF h.Hu hi λf a b=>h.off hi a (λe=>b e.symm)⟩;rcases nS k with rfl | ⟨f,a,b,rfl⟩
 ·have d:=h.at hi;unfold Rs.on at*;simp only;rw[hv]at d;have l:=(World.ownsRow.stored d j u).1;rw[hv];exact l
 ·exact bC (h.at a) (h.off hi a (λe=>b e.symm) g hb) u
theorem dL.cons (h:dL W lH rs){r':Rs}(ho:r'.on W bs)(hb:lH<=bs)(hbs:∀r∈rs,∀g,r.v.ownBlock=aK g->g<bs):dL W lH (r'::rs):=
 ⟨λr a=>by
  rw[gY]at a;rcases a with rfl | a
  ·exact own_base ho hb
  ·exact h.each r a,List.pairwise_cons.2 ⟨λr a g c b=>by have e:=hbs r a g b;have d:=(ho.lt g c).1;omega,h.Hu⟩⟩
theorem dL.sub {rs':List Rs}(h:dL W lH rs)(hs:rs'.Sublist rs):dL W lH rs':=⟨λr a=>h.each r (hs.subset a),h.Hu.sublist hs⟩
theorem dL.perm {rs':List Rs}(h:dL W lH rs)(hp:rs.Perm rs'):dL W lH rs':=⟨λr a=>h.each r (hp.mem_iff.2 a),(hp.pairwise_iff (λh=>Rs.off.symm h)).1 h.Hu⟩
theorem dL.nil (W:World)(lH:Nat):dL W lH []:=⟨λr a=>by simp at a,List.Pairwise.nil⟩
theorem dL.lt (h:dL W lH rs):∀r∈rs,∀g,r.v.ownBlock=aK g->lH<=g/\g<W.heap.size:=λr b g a=>(h.each r b).lt g a
end
theorem Wj (a1 a2:Option Addr)(n1 n2 c1 c2:Nat)(z:Zn)(p:Nat)(w:World)(hat:JY w a1 a2 n1 n2 z)(hz:z.ok)(h1:z.f<=p)(h2:p<z.e):
 Calls prog 88 #[aC #[aB aI z.f,aB aI z.e,aA a1 n1 c1,aA a2 n2 c2],aB aI p] w λev w'=>ev=aN (aG #[aB aI (z.y.getD ((p-z.f)/8) 0:Nat),aB aI 0])/\Below w.heap.size w w':=by
 have s:=hz.1.e2;obtain⟨n,u,i,b⟩:=boxes1 w #[aB aI (z.f:Int),aB aI (z.e:Int),aA a1 n1 c1,aA a2 n2 c2] 79;have h:=hat.below b;have l2:=hat.l2;have q:(p-z.f)/8<z.y.length:=by rw[hz.1.len];have:=hz.1.f16;have:=hz.1.e16;omega
 have k:z.y.getD ((p-z.f)/8) 0=z.y[(p-z.f)/8]:=by rw[List.getD_eq_getElem?_getD,gJ q];rfl
 rw[k];obtain⟨o,c⟩:∃o,z.y[(p-z.f)/8]=o:=⟨_,rfl⟩
 rw[c];have d:=gO c;clear hat k c;have E:decide (p<z.f)=false:=gV (by omega);have A:(p:Int)<z.e:=by omega
 have C:(z.f:Int)<=p:=by omega
 have v:((p:Int)-z.f)/8=(((p-z.f)/8:Nat):Int):=by omega
 have t:((((p-z.f)/8:Nat):Int))<n2:=by omega
 go_enter func88,ntmps88
 go_wp2_with fail
 generalize w.alloc _=H at*;refine(qC _ _ _ _ _ _ z _ h hz).mono ?_;rintro ev B ⟨rfl,a⟩;have D:=aAp n i a;have m:=h.below a;obtain⟨F,G,j,x,g⟩:=aAw bU (by decide) m.r2 q;obtain rfl:=j;have l:=iZ g;rw[Nat.mul_one]at l;have r:=gW b a;clear g m h n u a b;rw[d.out]at l;clear d;generalize (p-z.f)/8=J at*;go_wp2
 go_ret2
 exact⟨rfl,r⟩
end Go.Proofs.YtjaogfhcnmjkiaaGreatDoor

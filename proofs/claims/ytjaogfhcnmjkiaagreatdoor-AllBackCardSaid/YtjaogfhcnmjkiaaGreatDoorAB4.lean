/- joined. -/
import Derived.Test.YtjaogfhcnmjkiaaGreatDoorAB3
import Derived.ProofKit
import Derived.OpenShut
import Derived.Below
import Derived.ChangeSame
import Derived.Carry
set_option linter.all false
set_option maxRecDepth 100000
set_option maxHeartbeats 0
namespace Go.Proofs.YtjaogfhcnmjkiaaGreatDoor
open Go.RowKit
open Go.Value renaming slice->aA,int->aB,agg->aC,string->aF,tuple->aG,pointer->aH,ownBlock->gTh
open Go.IntKind renaming i64->aI
open Option renaming none->aJ,some->aK
open Go.Ending renaming returned->aN
open Go.Obj renaming cells->aO
open Go.Proofs.Tryz
variable {W W':World}{a cpu hd i k order p t:Nat}{apart low urgent:Bool}{args:Array Value}{h h':Hp}{l:List Bk}{ls:List Ls}{xs:List Int}
theorem Xk (k:Int)(w:World)(h1:1<=k)(h2:k<=64)(h3:4<=16/k):
 Calls prog 68 #[aB aI k] w λe w'=>e=aN (aG #[aB aI 0,aB aI (16/k),aB aI 0])/\w=w':=by
 go_enter func68,ntmps68
 go_wp2
 refine wp_loop_rounds 1 ?_;rw[rounds_succ];go_wp2
 go_ret3
 exact⟨rfl,rfl⟩
theorem Xl (k:Int)(w:World)(h1:1<=k)(h2:k<=64)(h3:16/k<4)(h4:4<=32/k):
 Calls prog 68 #[aB aI k] w λe w'=>e=aN (aG #[aB aI 1,aB aI (32/k),aB aI 0])/\w=w':=by
 go_enter func68,ntmps68
 go_wp2
 refine wp_loop_rounds 2 ?_;rw[rounds_succ];go_wp2
 rw[rounds_succ];go_wp2
 go_ret3
 exact⟨rfl,rfl⟩
theorem Xm (k:Int)(w:World)(h1:1<=k)(h2:k<=64)(h3:16/k<4)(h4:32/k<4):
 Calls prog 68 #[aB aI k] w λe w'=>e=aN (aG #[aB aI 2,aB aI (64/k),aB aI 0])/\w=w':=by
 go_enter func68,ntmps68
 go_wp2
 refine wp_loop_rounds 3 ?_;rw[rounds_succ];go_wp2
 rw[rounds_succ];go_wp2
 rw[rounds_succ];go_wp2
 all_goals (go_ret3;exact⟨rfl,rfl⟩)
section
variable {α:Type}
def WU (len at_ n:Int):Bool:=decide (0<=at_/\0<=n/\n<=len/\at_<=len-n)
theorem Ew (a:Option Addr)(len cap:Nat)(at_ n:Int)(w:World)(hl:len<=9223372036854775807)(h1: -9223372036854775808<=n)(h2:n<=9223372036854775807):
 Calls prog 126 #[aA a len cap,aB aI at_,aB aI n] w λe w'=>e=aN (.bool (WU len at_ n))/\w=w':=by
 by_cases d:0<=at_
 ·by_cases c:0<=n
  ·by_cases f:n<=(len:Int)
   ·by_cases b:at_<=(len:Int)-n
    ·go_enter func126,ntmps126
     go_wp2
     go_ret
     exact⟨bP (gTg (by omega)).symm,rfl⟩
    ·go_enter func126,ntmps126
     go_wp2
     go_ret
     exact⟨bP (gV (by omega)).symm,rfl⟩
   ·go_enter func126,ntmps126
    go_wp2
    go_ret
    exact⟨bP (gV (by omega)).symm,rfl⟩
  ·go_enter func126,ntmps126
   go_wp2
   go_ret
   exact⟨bP (gV (by omega)).symm,rfl⟩
 ·go_enter func126,ntmps126
  go_wp2
  go_ret
  exact⟨bP (gV (by omega)).symm,rfl⟩
def Ey (p:α->Bool)(xs:List α):Int:=match xs.findIdx? p with | some i=>(i:Int) | none=> -1
theorem Ur {p:α->Bool}{xs:List α}(hk:k<xs.length)(h:p xs[k]=true)(hn:∀x∈xs.take k,p x=false):Ey p xs=k:=by
 have e:xs.findIdx? p=aK k:=by
  rw[List.findIdx?_eq_some_iff_getElem];refine⟨hk,h,λj a=> ?_⟩;have:=hn (xs[j]'(by omega)) (by rw[List.mem_take_iff_getElem];exact⟨j,by omega,rfl⟩);simp[this]
 simp[Ey,e]
theorem Qk {p:α->Bool}{xs:List α}(hn:∀x∈xs,p x=false):Ey p xs= -1:=by
 have e:xs.findIdx? p=aJ:=by rw[List.findIdx?_eq_none_iff];exact hn
 simp[Ey,e]
theorem Us (a:Option Addr)(cap:Nat)(xs:List Int)(v:Int)(w:World)(hl:xs.length<=9223372036854775807)(hr:Row w a (xs.map vI)):
 Calls prog 93 #[aA a xs.length cap,aB aI v] w λe w'=>e=aN (aB aI (Ey (v == ·) xs))/\w=w':=by
 go_enter func93,ntmps93
 go_wp2
 go_loop [5,8] (λ_ g=>∃k:Nat,k<=xs.length/\g=aB aI k/\Hid (∀x∈xs.take k,(v == x)=false)) (λ_ g=>xs.length-(intOf g).toNat)
 case atStart=>exact⟨0,gU _,rfl,by simp[Hid]⟩
 case round=>
  obtain⟨k,i,rfl,c⟩:=hrel;by_cases d:k<xs.length
  ·obtain⟨b,off,rfl,hb,h⟩:=hr k (vI xs[k]) (by simp[d]);simp only[vI]at h;clear hr;cases hv:v == xs[k]with
   | true=>
    go_wp2
    go_ret
    exact⟨fC (Ur d hv c.out).symm,rfl⟩
   | false=>
    go_wp2
    go_round
    case rel=>exact⟨k+1,by omega,by go_num,λx f=>by
     rw[List.take_succ_eq_append_getElem d,gZ,gTa]at f;rcases f with f | rfl
     ·exact c.out x f
     ·exact hv⟩
    case measure=>simp[intOf];omega
  ·obtain rfl:k=xs.length:=by omega
   go_wp2
   go_ret
   exact⟨fC (Qk (by simpa[Hid]using c)).symm,rfl⟩
theorem JC (p:α->Bool)(xs:List α):decide (0<=Ey p xs)=xs.any p:=by
 unfold Ey;cases h:xs.findIdx? p with
 | none=>rw[List.findIdx?_eq_none_iff]at h;symm;simpa using h
 | some i=>rw[List.findIdx?_eq_some_iff_getElem]at h;obtain⟨b,a,_⟩:=h;symm;simp only[Int.natCast_nonneg,decide_true,List.any_eq_true];exact⟨_,gL b,a⟩
def vO (xs:List Int)(v:Int):Bool:=xs.contains v
theorem kQ (a:Option Addr)(cap:Nat)(xs:List Int)(v:Int)(w:World)(hl:xs.length<=9223372036854775807)(hr:Row w a (xs.map vI)):
 Calls prog 45 #[aA a xs.length cap,aB aI v] w λe w'=>e=aN (.bool (vO xs v))/\w=w':=by
 go_enter func45,ntmps45
 go_wp2_with (go_at_call 93;refine(Us _ _ _ _ _ hl hr).mono ?_;rintro e w' ⟨rfl,rfl⟩)
 go_ret
 exact⟨bP (by rw[JC,vO,List.contains_eq_any_beq]),rfl⟩
theorem Ik:(prog.info? 3).map (λi=>(i.zero,i.size,i.bytes))=aK (aK (aB aI 0),1,8):=by kernel_rfl
theorem Xn (xs:List Int):∀u∈xs.map vI,u.oneCell'=true:=by
 intro u a;obtain⟨x,_,rfl⟩:=List.mem_map.1 a;rfl
theorem Il (a:Option Addr)(cap:Nat)(xs:List Int)(w:World)(hl:xs.length*8<=140737488355328)(hr:Row w a (xs.map vI)):
 Calls prog 35 #[aA a xs.length cap] w λe w'=>∃a' c',e=aN (aA a' xs.length c')/\w'.ownsRow w.heap.size 3 1 (aA a' xs.length c') xs.length (xs.map vI)/\Below w.heap.size w w':=by
 have j:∀(w:World) (a:Option Addr) (n c g c':Nat),(binOp .eql 34 (aA a n c) (aA aJ g c')).run prog w= .ok (.bool a.isNone) w:=λw a n c g c'=>Lib.run_eql_slice_nil w _ _ a n c g c' underlying34
 cases a with
 | none=>
  have m:xs=[]:=by
   cases xs with
   | nil=>rfl
   | cons u l=>obtain⟨b,off,i,_⟩:=hr 0 (vI u) rfl;cases i
  subst m;go_enter func35,ntmps35
  go_wp2
  go_ret
  exact⟨aJ,0,rfl,World.ownsRow_nil _ _ _ _,gX _ _⟩
 | some ad=>
  go_enter func35,ntmps35
  go_wp2_with (at_builtin;refine jO rfl _ _ 34 rfl w.heap.size 3 (aB aI 0) 1 8 underlying34 Ik rfl (by decide) (by decide) _ _ _ _ rfl (World.ownsRow_made w #[] 0 (gT _) (gU _) (by simp)) (aK ad) xs.length cap (xs.map vI) rfl ?q1 ?q2 ?q3 ?q4 ?q5 ?_)
  case q1=>simp
  case q2=>exact hr.below ((gX _ _).alloc (gT _) _)
  case q3=>exact Xn xs
  case q4=>rw[Nat.zero_add];exact hl
  case q5=>simp
  intro a' c' o f d;go_wp2
  go_ret
  exact⟨a',c',rfl,f,((gX _ w).alloc (gT _) _).grown d (by simp) (by intro k h;simp[gTh]at h;omega)⟩
theorem Ez {w:World}{a:Option Addr}(hr:Row w a (xs.map vI))(h:k<xs.length):
 ∃b off,a=aK ⟨b,off,aJ⟩/\b<w.heap.size/\w.cell? ⟨b,off+k,aJ⟩=aK (aB aI xs[k]):=
 hr k (vI xs[k]) (by simp[h])
end
def jS (xs:List Int)(most:Int):Nat->Int->List Int->Option (List Int)
 | 0,_,_=>aJ
 | f+1,p,out=>if p= -1 then aK out else if(out.length:Int)>=most∨WU xs.length p 1=false∨vO out p=true then aJ else jS xs most f (xs.getD p.toNat 0) (out++[p])
def follow (xs:List Int)(p most:Int):Option (List Int):=jS xs most (xs.length+2) p []
theorem EC:∀(n:Nat) (l:List Int),l.Nodup->(∀x∈l,0<=x/\x<n)->l.length<=n
 | 0,l,_,h=>by
  cases l with
  | nil=>simp
  | cons a l=>have:=h a (by simp);omega
 | n+1,l,hd,h=>by
  have b:=EC n (l.erase (n:Int)) (hd.erase _) (λx c=>by
   have g:=h x (List.mem_of_mem_erase c);have f:x≠(n:Int):=by
    intro e;subst e;exact(List.Nodup.not_mem_erase hd) c
   omega)
  by_cases d:(n:Int)∈l
  ·rw[List.length_erase_of_mem d]at b;omega
  ·rw[List.erase_of_not_mem d]at b;omega
def lenOf:Value->Nat | aA _ n _=>n | _=>0
def ED (w:World)(r:Option (List Int))(e:Ending)(w':World):Prop:=
 Below w.heap.size w w'/\match r with
  | some l=>∃a c,e=aN (aG #[aA a l.length c,aB aI 0])/\w'.ownsRow w.heap.size 3 1 (aA a l.length c) l.length (l.map vI)
  | none=>e=aN (aG #[aA aJ 0 0,aB aI 8])
theorem Ql (a:Option Addr)(cap:Nat)(xs:List Int)(p most:Int)(w:World)(hl:xs.length<=1000000)(hr:Row w a (xs.map vI)):
 Calls prog 91 #[aA a xs.length cap,aB aI p,aB aI most] w (ED w (follow xs p most)):=by
 generalize E:follow xs p most=R;go_enter func91,ntmps91
 go_wp2
 go_loopw [1,8] (λQ F wr=>∃(q:Int) (out:List Int) (o:Option Addr) (r f:Nat),Q=aB aI q/\F=aA o out.length r/\wr.ownsRow w.heap.size 3 1 (aA o out.length r) out.length (out.map vI)/\
  Below w.heap.size w wr/\Hid (jS xs most f q out=R)/\f+out.length=xs.length+2/\Hid (out.Nodup/\∀x∈out,0<=x/\x<xs.length)) (λ_ F _=>xs.length+2-lenOf F)
 case atStart=>exact⟨p,[],aJ,0,xs.length+2,rfl,rfl,World.ownsRow_nil _ _ _ _,gX _ _,E,rfl,List.nodup_nil,by simp⟩
 case round=>
  obtain⟨q,out,o,r,f,rfl,rfl,d,c,I,V,l⟩:=hrel;have U:=EC xs.length out l.out.1 l.out.2;obtain⟨f,rfl⟩:∃T,f=T+1:=⟨f-1,by omega⟩
  have t:out.length<=9223372036854775807:=by omega
  have g:=I.out;unfold jS at g;by_cases s:q= -1
  ·have O:(q != -1)=false:=by simp[s]
   rw[if_pos s]at g;have m:=gO d;clear d s E;go_wp2
   go_ret2
   subst g;exact⟨c,_,_,rfl,m.out⟩
  ·have O:(q != -1)=true:=by simp[s]
   rw[if_neg s]at g;have m:=gO d;clear d E I;by_cases M:most<=(out.length:Int)
   ·rw[if_pos (Or.inl M)]at g;subst g;go_wp2_with fail
    go_ret2
    exact⟨c,rfl⟩
   ·cases h3:WU xs.length q 1 with
    | false=>
     rw[if_pos (Or.inr (Or.inl h3))]at g;subst g;go_wp2_with (go_at_call 126;refine(Ew _ _ _ _ _ _ (by omega) (by omega) (by omega)).mono ?_;rintro e v ⟨rfl,rfl⟩)
     go_ret2
     exact⟨c,rfl⟩
    | true=>
     cases h4:vO out q with
     | true=>
      rw[if_pos (Or.inr (Or.inr h4))]at g;subst g;go_wp2_with (first | (go_at_call 126;refine(Ew _ _ _ _ _ _ (by omega) (by omega) (by omega)).mono ?_;rintro e v ⟨rfl,rfl⟩) | (go_at_call 45;refine(kQ _ _ _ _ _ t (bJ m.out)).mono ?_;rintro e v ⟨rfl,rfl⟩))
      go_ret2
      exact⟨c,rfl⟩
     | false=>
      rw[if_neg (by rw[h3,h4];simp;omega)]at g;have G:0<=q/\q<xs.length:=by unfold WU at h3;simp only[decide_eq_true_eq]at h3;omega
      obtain⟨k,rfl⟩:=Int.eq_ofNat_of_zero_le G.1;have H:k<xs.length:=by omega
      rw[Int.toNat_natCast,List.getD_eq_getElem?_getD,gJ H,Option.getD_some]at g;have D:=gO g;clear g;have z:=hr.below c;have A:=c.size;have B:Hid ((wr.alloc (aO #[aB aI (k:Int)] 3)).ownsRow w.heap.size 3 1 (aA o out.length r) out.length (out.map vI)):=gO (own_below m.out ((gX _ _).alloc (gT _) _) (gT _));have K:Hid (Row (wr.alloc (aO #[aB aI (k:Int)] 3)) (aK ⟨wr.heap.size,0,aJ⟩) [vI k]):=Xi _ _ _;go_wp2_with (first | (go_at_call 126;refine(Ew _ _ _ _ _ _ (by omega) (by omega) (by omega)).mono ?_;rintro e v ⟨rfl,rfl⟩) | (go_at_call 45;refine(kQ _ _ _ _ _ t (bJ m.out)).mono ?_;rintro e v ⟨rfl,rfl⟩) | (at_builtin;refine jO rfl _ _ 34 rfl w.heap.size 3 (aB aI 0) 1 8 underlying34 Ik rfl (by decide) (by decide) o out.length r (out.map vI) rfl B.out (aK ⟨wr.heap.size,0,aJ⟩) 1 1 [vI k] rfl rfl K.out (by simp[vI,Value.oneCell']) (by omega) (by simp;omega) ?_))
      intro P N L i j;have u:Below w.heap.size w L:=below_grown (c.alloc A _) B.out j (gT _) (by simp;omega);obtain⟨b,off,rfl,S,W⟩:=Ez (hr.below u) H;have C:=gO i;clear i B K z j hr m;go_wp2
      go_roundw
      case rel=>
       refine⟨xs[k],out++[(k:Int)],P,N,f,rfl,by simp,?_,u,D.out,by simp;omega,?_⟩
       ·have h:=C.out;simp only[gTb,List.length_cons,List.length_nil,List.map_append,List.map_cons,List.map_nil];exact h
       ·refine⟨?_,?_⟩
        ·rw[List.nodup_append];refine⟨l.out.1,by simp,?_⟩;intro x n y J;simp only[gTa]at J;subst J;intro e;subst e;have:vO out (k:Int)=true:=by unfold vO;simpa using n
         rw[this]at h4;cases h4
        ·intro x n;rw[gZ,gTa]at n;rcases n with n | rfl
         ·exact l.out.2 x n
         ·omega
      case measure=>simp[lenOf];omega
theorem Xo (a:Option Addr)(n cap:Nat)(xs:List Int)(p most:Int)(w:World)(hn:xs.length=n)(hl:n<=1000000)(hr:Row w a (xs.map vI)):
 Calls prog 91 #[aA a n cap,aB aI p,aB aI most] w (ED w (follow xs p most)):=by
 subst hn;exact Ql a cap xs p most w hl hr
theorem MR (a:Option Addr)(n cap:Nat)(xs:List Int)(p most:Int)(w:World)(hn:xs.length=n)(hl:n<=1000000)(hr:Row w a (xs.map vI))(l:List Int)(hf:follow xs p most=aK l):
 Calls prog 91 #[aA a n cap,aB aI p,aB aI most] w λe w'=>∃a' c',e=aN (aG #[aA a' l.length c',aB aI 0])/\w'.ownsRow w.heap.size 3 1 (aA a' l.length c') l.length (l.map vI)/\Below w.heap.size w w':=by
 refine(Xo a n cap xs p most w hn hl hr).mono λe w' h=> ?_
 rw[hf]at h;obtain⟨hb,a',c',c,b⟩:=h;exact⟨a',c',c,b,hb⟩
section
attribute [local go_sem ↓] jP
def chainTo (xs:List Int)(p k n:Nat):Nat->List Int
 | 0=>xs
 | i+1=>(chainTo xs p k n i).set (p+i*k) (if i+1<n then((p+(i+1)*k:Nat):Int)else-1)
theorem jB (xs:List Int)(p k n:Nat):∀i,(chainTo xs p k n i).length=xs.length
 | 0=>rfl
 | i+1=>by simp[chainTo,jB xs p k n i]
theorem Xp (a:Option Addr)(cap:Nat)(xs:List Int)(p k n:Nat)(w:World)(hl:xs.length<=1000000)(hr:Row w a (xs.map vI))(hk1:1<=k)(hk2:k<=64)(hn1:1<=n)(hn2:n<=xs.length)(hin:p+k*n<=xs.length):
 Calls prog 176 #[aA a xs.length cap,aB aI p,aB aI k,aB aI n] w λe w'=>∃a' c',e=aN (aG #[aA a' xs.length c',aB aI 0])/\w'.ownsRow w.heap.size 3 1 (aA a' xs.length c') xs.length ((chainTo xs p k n n).map vI)/\Below w.heap.size w w':=by
 have s:0<=(k:Int)*(n:Int):=Int.mul_nonneg (by omega) (by omega);have r:(k:Int)*(n:Int)<=xs.length-p:=by
  have:((k*n:Nat):Int)=(k:Int)*(n:Int):=by simp
  omega
 have x:Hid (WU xs.length p ((k:Int)*(n:Int))=true):=by unfold WU;exact gTg (by omega)
 have F:decide ((k:Int)<1)=false:=gV (by omega);have C:decide (64<(k:Int))=false:=gV (by omega);have E:decide ((n:Int)<1)=false:=gV (by omega);go_enter func176,ntmps176
 go_wp2_with (first | (go_at_call 126;refine(Ew _ _ _ _ _ _ (by omega) (by omega) (by omega)).mono ?_;rw[x.out];rintro e w' ⟨rfl,rfl⟩) | (go_at_call 35;refine(Il _ _ _ _ (by omega) hr).mono ?_;rintro e D ⟨a',c',rfl,b,hb⟩;have z:=gO b;clear b))
 go_loopw [11,12,41] (λ_ _ d wr=>∃i:Nat,i<=n/\d=aB aI i/\Hid (wr.ownsRow w.heap.size 3 1 (aA a' xs.length c') xs.length ((chainTo xs p k n i).map vI))/\Below w.heap.size w wr) (λ_ _ d _=>n-(intOf d).toNat)
 case atStart=>exact⟨0,gU _,rfl,z,hb⟩
 case round=>
  obtain⟨i,H,rfl,b,f⟩:=hrel;by_cases l:i<n
  ·have j:p+i*k<xs.length:=by
    have:i*k+k<=k*n:=by rw[<- Nat.succ_mul,Nat.mul_comm];exact Nat.mul_le_mul_left _ l
    omega
   have y:0<=(i:Int)*(k:Int):=Int.mul_nonneg (by omega) (by omega);have t:(p:Int)+(i:Int)*(k:Int)<xs.length:=by
    have:((p+i*k:Nat):Int)=(p:Int)+(i:Int)*(k:Int):=by simp
    omega
   obtain⟨g,v,rfl,q,A,I,G⟩:=iJ b.out (p+i*k) (by rw[gTe,jB];exact j);have u:0<=((i:Int)+1)*(k:Int):=Int.mul_nonneg (by omega) (by omega);have o:((i:Int)+1)*(k:Int)=(i:Int)*(k:Int)+k:=by rw[Int.add_mul,Int.one_mul]
   have B:((i:Int)+1)*(k:Int)<=xs.length+64:=by omega
   clear o;by_cases c:i+1<n
   ·have m:(i:Int)<(n:Int)-1:=by omega
    go_wp2
    go_roundw
    case rel=>exact⟨i+1,by omega,by go_num,by
     have h:=(World.ownsRow.stored b.out (p+i*k) (vI (p+((i:Int)+1)*k))).1;show World.ownsRow _ _ _ _ _ _ ((chainTo xs p k n (i+1)).map vI);unfold chainTo;rw[if_pos c,List.map_set];rw[show(((p+(i+1)*k:Nat):Int))=p+((i:Int)+1)*k from by simp];exact h,f.setCell q _⟩
    case measure=>simp[intOf];omega
   ·have m:¬(i:Int)<(n:Int)-1:=by omega
    go_wp2
    go_roundw
    case rel=>exact⟨i+1,by omega,by go_num,by
     have h:=(World.ownsRow.stored b.out (p+i*k) (vI (-1))).1;show World.ownsRow _ _ _ _ _ _ ((chainTo xs p k n (i+1)).map vI);unfold chainTo;rw[if_neg c,List.map_set];exact h,f.setCell q _⟩
    case measure=>simp[intOf];omega
  ·obtain rfl:i=n:=by omega
   go_wp2
   go_ret2
   exact⟨a',c',rfl,b.out,f⟩
end
theorem fG.push (hk:fG h){l:Ls}(hl:l.c<h.aP/\l.z<2/\l.t<3)(hp:p<256/\(p<h.z0.e↔l.z=0))(h8:∀x∈h.ls,x.key=l.key->x.p.length+1<=8)(hd:∀q,cnt h.all q+hit ⟨p,0,0⟩ q<=1):
 fG {h with ls:=cO h.ls l p}/\∀q,cnt ({h with ls:=cO h.ls l p}:Hp).all q=cnt h.all q+hit ⟨p,0,0⟩ q:=by
 have a:∀q,cnt ({h with ls:=cO h.ls l p}:Hp).all q=cnt h.all q+hit ⟨p,0,0⟩ q:=λq=>by
  rw[dO,dO];simp only;rw[cnt_push];omega
 exact⟨⟨hk.o0,hk.o1,hk.f0,hk.e0,hk.e1,hk.m0,hk.m1,hk.cp,nI hk.lk l p,JI (N:=8) (M:=8) hk.lr hl hp (gT _) (by omega) h8,hk.lv,hk.vs,λq=>by rw[a];exact hd q⟩,a⟩
def zQ (ls:List Ls)(k:Nat):Nat:=match ls.find? λx=>decide (x.key=k)with
 | some x=>x.p.length
 | none=>0
theorem Na (h:mJ ls){x:Ls}(hx:x∈ls):zQ ls x.key=x.p.length:=by
 unfold zQ;have:ls.find? (λy=>decide (y.key=x.key))=aK x:=by
  induction ls with
  | nil=>simp at hx
  | cons y ls ih=>
   obtain⟨a,b⟩:=List.pairwise_cons.1 h;rw[gY]at hx;rcases hx with rfl | hx
   ·rw[List.find?_cons_of_pos (by simp)]
   ·rw[List.find?_cons_of_neg (by have:=a x hx;simp;omega)];exact ih b hx
 rw[this]
theorem EI {l:Ls}(h:mJ ls):∀x∈cO ls l p,x.key=l.key->x.p.length=zQ ls l.key+1:=by
 intro x c b;have u:=nI h l p;unfold cO at c u;split at c
 ·rename_i y hy;obtain⟨q,f⟩:=gK.1 hy;have t:y∈ls:=by rw[<- f];exact gL q
  by_cases g:y.key=l.key
  ·rw[if_pos g]at c;have o:=Na h t;rw[g]at o;rcases List.mem_or_eq_of_mem_set c with e | rfl
   ·obtain⟨j,s,rfl⟩:=List.getElem_of_mem c;rw[List.length_set]at s;rw[List.getElem_set]at b ⊢;by_cases r:kS ls l.key=j
    ·rw[if_pos r]at b ⊢;simp[o]
    ·rw[if_neg r]at b;exfalso;rcases Nat.lt_or_gt_of_ne r with i | m
     ·have:=gN.1 h _ _ q s i;rw[f,g,b]at this;omega
     ·have:=gN.1 h _ _ s q m;rw[f,g,b]at this;omega
   ·simp[o]
  ·rw[if_neg g]at c;have a:=qM h (k:=l.key) λw d=>by rw[hy]at d;obtain rfl:=gP d;exact g
   have n:zQ ls l.key=0:=by
    unfold zQ;rw[List.find?_eq_none.2 (λw d=>by simpa using a w d)]
   rw[gZ,gY]at c;rcases c with e | rfl | e
   ·exact absurd b (a x (List.mem_of_mem_take e))
   ·rw[n];rfl
   ·exact absurd b (a x (List.mem_of_mem_drop e))
 ·rename_i hy;have a:=qM h (k:=l.key) λw d=>by rw[hy]at d;cases d
  have n:zQ ls l.key=0:=by
   unfold zQ;rw[List.find?_eq_none.2 (λw d=>by simpa using a w d)]
  rw[gZ,gY]at c;rcases c with e | rfl | e
  ·exact absurd b (a x (List.mem_of_mem_take e))
  ·rw[n];rfl
  ·exact absurd b (a x (List.mem_of_mem_drop e))
theorem fG.fill {l:Ls}{hd:Nat}:∀(n:Nat) {h:Hp},fG h->(l.c<h.aP/\l.z<2/\l.t<3)->(∀x∈h.ls,x.key=l.key->x.p.length+n<=8)->n<=8->
 fG (h.fill l hd n)/\(∀q,cnt (h.fill l hd n).all q=cnt h.all q)/\Same h (h.fill l hd n)/\(h.fill l hd n).live=h.live
 | 0,h,hk,_,_,_=>⟨hk,λ_=>rfl,Same.refl h,rfl⟩
 | n+1,h,hk,hl,h8,hn=>by
  unfold Hp.fill;cases ht:h.nH l.z 0 l.t hd with
  | none=>exact⟨hk,λ_=>rfl,Same.refl h,rfl⟩
  | some r=>
   obtain⟨h',a⟩:=r;obtain⟨d,g,v⟩:=hk.nH (by omega) hl.2.2 hl.2.1 ht;have f:l.c<h'.aP/\l.z<2/\l.t<3:=by rw[d.same.aP];exact hl
   obtain⟨o,m⟩:=d.ok.push (l:=l) (p:=a) f ⟨d.fit.2.2.1,by rw[d.same.split];exact v⟩ (λx i hk=>by rw[g]at i;have:=h8 x i hk;omega) (λq=>by rw[d.c 0 q];exact hk.one q);obtain⟨k1,k2,s,u⟩:=fG.fill n (h:={h' with ls:=cO h'.ls l a}) o f (λx i e=>by
    have:=EI d.ok.lk x i e;have w:zQ h'.ls l.key+(n+1)<=8:=by
     unfold zQ;cases hf:h'.ls.find? λx=>decide (x.key=l.key)with
     | none=>simp only;omega
     | some y=>
      have k:=List.mem_of_find?_eq_some hf;have j:=List.find?_some hf;rw[g]at k;exact h8 y k (of_decide_eq_true j)
    omega) (by omega)
   exact⟨k1,λq=>by rw[k2,m,d.c 0 q],Same.trans (b:={h' with ls:=cO h'.ls l a}) (Same.trans d.same ⟨rfl,rfl,rfl,rfl⟩) s,u.trans d.live⟩
theorem tH (h:p<256):dM 0 256 p 0:=⟨by omega,by omega,h,by simp[Nat.mod_one]⟩
theorem aFp (a o t t' p:Nat):hit ⟨a,o,t⟩ p=hit ⟨a,o,t'⟩ p:=rfl
theorem UA {n:Nat}(hm:∀y∈ls,y.key≠k):∀x∈ls,x.key=k->x.p.length+n<=8:=λx a b=>absurd b (hm x a)
theorem fG.filled (hk:fG h){l:Ls}(hl:l.c<h.aP/\l.z<2/\l.t<3)(hm:∀y∈h.ls,y.key≠l.key)(he:(h.nH l.z 0 l.t hd).map (λr=>(r.1.fill l hd 3,r.2))=aK (h',a)):Uz h 0 h' a:=by
 cases ht:h.nH l.z 0 l.t hd with
 | none=>rw[ht]at he;cases he
 | some r=>
  obtain⟨g,b⟩:=r;rw[ht]at he;simp only[Option.map_some,Option.some.injEq,Prod.mk.injEq]at he;obtain⟨rfl,rfl⟩:=he;obtain⟨d,e,j⟩:=hk.nH (by omega) hl.2.2 hl.2.1 ht;obtain⟨k1,k2,f,i⟩:=fG.fill (l:=l) (hd:=hd) 3 d.ok (by rw[d.same.aP];exact hl) (UA (by rw[e];exact hm)) (by omega);exact⟨k1,d.fit,λt p=>by rw[k2];exact d.c t p,d.same.trans f,i.trans d.live⟩
theorem fG.single (hk:fG h){l:Ls}(hl:l.c<h.aP/\l.z<2/\l.t<3)(he:h.single l hd=aK (h',a)):Uz h 0 h' a:=by
 unfold Hp.single at he;cases hx:h.ls[kS h.ls l.key]? with
 | none=>
  rw[hx]at he;exact hk.filled hl (qM hk.lk λy b=>by rw[hx]at b;cases b) he
 | some x=>
  rw[hx]at he;simp only at he;obtain⟨s,g⟩:=gK.1 hx;by_cases d:x.key=l.key
  ·rw[if_pos d]at he;simp only[Option.some.injEq,Prod.mk.injEq]at he;obtain⟨rfl,rfl⟩:=he;have u:x∈h.ls:=by rw[<- g];exact gL s
   obtain⟨E,H,F,C,I,B⟩:=hk.lr x u;have k:x.p≠[]:=λe=>by rw[e]at C;simp at C
   obtain⟨f,y,b⟩:∃f y,x.p=f++[y]:=⟨x.p.dropLast,x.p.getLast k,(List.dropLast_concat_getLast k).symm⟩
   have j:x.p.getLastD 0=y:=by rw[b];simp
   have i:x.p.dropLast=f:=by rw[b];simp
   have o:x.p.length=f.length+1:=by rw[b];simp
   have v:y∈x.p:=by rw[b];simp
   rw[j,i,o];have n:∀q,cnt (mG x.p) q=cnt (mG f) q+hit ⟨y,0,0⟩ q:=λq=>by rw[b,jZ];rfl
   have A:∀q,cnt (lsB (if f.length+1=1 then h.ls.eraseIdx (kS h.ls l.key)else h.ls.set (kS h.ls l.key) {x with p:=f})) q+hit ⟨y,0,0⟩ q=cnt (lsB h.ls) q:=λq=>by
    split
    ·rename_i h1;have:=yM s q;rw[g,n]at this;have G:f=[]:=List.eq_nil_of_length_eq_zero (by omega);rw[G]at this;simp only[mG,List.map_nil,cnt]at this;omega
    ·have:=wB s {x with p:=f} q;rw[g,n]at this;simp only at this;omega
   have m:∀t q,cnt ({h with ls:=if f.length+1=1 then h.ls.eraseIdx (kS h.ls l.key)else h.ls.set (kS h.ls l.key) {x with p:=f}}:Hp).all q+hit ⟨y,0,t⟩ q=cnt h.all q:=λt q=>by
    rw[aFp y 0 t 0,dO,dO];simp only;have:=A q;omega
   refine⟨⟨hk.o0,hk.o1,hk.f0,hk.e0,hk.e1,hk.m0,hk.m1,hk.cp,?_,?_,hk.lv,hk.vs,λq=>by have:=m 0 q;have:=hk.one q;omega⟩,tH (B y v).1,m,⟨rfl,rfl,rfl,rfl⟩,rfl⟩
   ·simp only;split
    ·exact hk.lk.sublist (List.eraseIdx_sublist _ _)
    ·exact EH hk.lk s (by rw[g];rfl)
   ·simp only;intro w r;split at r
    ·exact hk.lr w ((List.eraseIdx_sublist _ _).subset r)
    ·rename_i h1;rcases List.mem_or_eq_of_mem_set r with r | rfl
     ·exact hk.lr w r
     ·exact⟨E,H,F,by simp only;omega,by simp only;omega,λq D=>B q (by rw[b];simp[D])⟩
  ·rw[if_neg d]at he;exact hk.filled hl (qM hk.lk λy b=>by rw[hx]at b;obtain rfl:=gP b;exact d) he
theorem fG.ask (hk:fG h)(hc:cpu<h.aP)(hi:i<2)(ho:order<=4)(ht:t<3)(he:h.ask cpu i order t urgent low=aK (h',a)):Uz h order h' a:=by
 unfold Hp.ask at he;split at he
 ·rename_i h0;subst h0;exact hk.single ⟨hc,hi,ht⟩ he
 ·exact(hk.nH ho ht hi he).1
theorem fG.attempt (hk:fG h)(hc:cpu<h.aP)(ho:order<=4)(ht:t<3)(he:h.attempt cpu order t urgent low=aK (h',a)):Uz h order h' a:=by
 unfold Hp.attempt at he;split at he
 ·exact hk.ask hc (by omega) ho ht he
 ·cases h1:h.ask cpu 1 order t urgent low with
  | some r=>
   rw[h1]at he;obtain rfl:=gP he;exact hk.ask hc (by omega) ho ht h1
  | none=>
   rw[h1]at he;exact hk.ask hc (by omega) ho ht he
theorem Xy (h:Hp)(m:List Ls)(a o:Nat):({h with ls:=m}:Hp).jY a o={h.jY a o with ls:=m}:=by
 unfold Hp.jY Hp.kL Hp.zone Hp.jX;simp only;split <;> split <;> rfl
theorem lG:∀(ps:List Nat) (h:Hp) (m:List Ls),bK {h with ls:=m} ps={bK h ps with ls:=m}
 | [],_,_=>rfl
 | p::ps,h,m=>by rw[bK,bK,Xy,lG ps]
theorem BA:∀(ls:List Ls) (h:Hp) (m:List Ls),dI {h with ls:=m} ls={dI h ls with ls:=m}
 | [],_,_=>rfl
 | l::ls,h,m=>by rw[dI,dI,lG,BA ls]
theorem fG.bK:∀(ps:List Nat) {h:Hp},fG h->(∀p∈ps,p<256)->(∀q,cnt h.all q+cnt (mG ps) q<=1)->
 fG (bK h ps)/\(∀q,cnt (bK h ps).all q=cnt h.all q+cnt (mG ps) q)/\Same h (bK h ps)/\(bK h ps).ls=h.ls/\(bK h ps).live=h.live
 | [],h,hk,_,_=>⟨hk,λq=>by simp[Go.Proofs.YtjaogfhcnmjkiaaGreatDoor.bK,mG,cnt],Same.refl h,rfl,rfl⟩
 | p::ps,h,hk,hp,hd=>by
  have hcons:∀q,cnt (mG (p::ps)) q=hit ⟨p,0,0⟩ q+cnt (mG ps) q:=λ_=>rfl
  obtain⟨d,a,j,b,c⟩:=hk.jY (tH (hp p (by simp))) (λq=>by have:=hd q;rw[hcons]at this;omega);obtain⟨k1,k2,e,i,g⟩:=fG.bK ps d (λq f=>hp q (by simp[f])) (λq=>by rw[a];have:=hd q;rw[hcons]at this;omega);exact⟨k1,λq=>by have:=k2 q;rw[a]at this;rw[hcons];show cnt (Go.Proofs.YtjaogfhcnmjkiaaGreatDoor.bK (h.jY p 0) ps).all q=_;omega,j.trans e,i.trans b,g.trans c⟩
theorem fG.dI:∀(ls:List Ls) {h:Hp},fG h->(∀l∈ls,∀p∈l.p,p<256)->(∀q,cnt h.all q+cnt (lsB ls) q<=1)->
 fG (dI h ls)/\(∀q,cnt (dI h ls).all q=cnt h.all q+cnt (lsB ls) q)/\Same h (dI h ls)/\(dI h ls).ls=h.ls/\(dI h ls).live=h.live
 | [],h,hk,_,_=>⟨hk,λq=>by simp[Go.Proofs.YtjaogfhcnmjkiaaGreatDoor.dI,lsB,cnt],Same.refl h,rfl,rfl⟩
 | l::ls,h,hk,hp,hd=>by
  obtain⟨g1,g2,g3,g4,g5⟩:=hk.bK l.p (hp l (by simp)) (λq=>by have:=hd q;rw[jH]at this;omega);obtain⟨k1,k2,b,d,c⟩:=fG.dI ls g1 (λm a=>hp m (by simp[a])) (λq=>by rw[g2];have:=hd q;rw[jH]at this;omega);exact⟨k1,λq=>by have:=k2 q;rw[g2]at this;rw[jH];show cnt (Go.Proofs.YtjaogfhcnmjkiaaGreatDoor.dI (Go.Proofs.YtjaogfhcnmjkiaaGreatDoor.bK h l.p) ls).all q=_;omega,g3.trans b,d.trans g4,c.trans g5⟩
theorem fG.JJ (hk:fG h):fG {h with ls:=[]}:=
 ⟨hk.o0,hk.o1,hk.f0,hk.e0,hk.e1,hk.m0,hk.m1,hk.cp,List.Pairwise.nil,λl b=>by simp at b,hk.lv,hk.vs,λq=>by
  have a:=hk.one q;rw[dO]at a ⊢;simp only[lsB,cnt];omega⟩
theorem fG.drain (hk:fG h):fG h.drain/\(∀q,cnt h.drain.all q=cnt h.all q)/\Same h h.drain/\h.drain.ls=[]/\h.drain.live=h.live:=by
 have e:h.drain=Go.Proofs.YtjaogfhcnmjkiaaGreatDoor.dI {h with ls:=[]} h.ls:=(BA h.ls h []).symm;have a:∀q,cnt ({h with ls:=[]}:Hp).all q+cnt (lsB h.ls) q=cnt h.all q:=λq=>by
  rw[dO,dO];simp only[lsB,cnt];omega
 obtain⟨k1,k2,d,i,g⟩:=hk.JJ.dI h.ls (λl f p c=>((hk.lr l f).2.2.2.2.2 p c).1) (λq=>by rw[a];exact hk.one q);rw[e];exact⟨k1,λq=>by rw[k2,a],Same.trans (b:={h with ls:=[]}) ⟨rfl,rfl,rfl,rfl⟩ d,i,g⟩
theorem tJ (l:List Bk)(b:Bk)(q:Nat):cnt (dG l b) q=cnt l q+hit b q:=by
 unfold dG
 conv=>rhs;rw[<- List.take_append_drop (lb l b.a) l]
 rw[dD,dD,cnt];omega
theorem BD (hi:i<l.length)(q:Nat):cnt (l.eraseIdx i) q+hit l[i] q=cnt l q:=by
 have a:l=l.take i++l[i]::l.drop (i+1):=by rw[<- List.drop_eq_getElem_cons hi,List.take_append_drop]
 conv=>rhs;rw[a]
 rw[List.eraseIdx_eq_take_drop_succ,dD,dD,cnt];omega
theorem Qq (h:rW l){b:Bk}(hn:∀x∈l,x.a≠b.a):rW (dG l b):=by
 unfold rW dG;rw[List.pairwise_append];refine⟨h.sublist (List.take_sublist _ _),List.pairwise_cons.2 ⟨λy c=> ?_,h.sublist (List.drop_sublist _ _)⟩,λx f y c=> ?_⟩
 ·have d:=vZ h y c;have e:=hn y (List.mem_of_mem_drop c);omega
 ·have d:=zO x f;rw[gY]at c;rcases c with rfl | c
  ·exact d
  ·have e:=vZ h y c;omega
theorem Iy {b x:Bk}(h:x∈dG l b):x=b∨x∈l:=by
 unfold dG at h;rw[gZ,gY]at h;rcases h with h | rfl | h
 ·exact .inr (List.mem_of_mem_take h)
 ·exact .inl rfl
 ·exact .inr (List.mem_of_mem_drop h)
theorem Xz (h:Hp)(p:Nat):cnt h.live p<=cnt h.all p:=by rw[dO];omega
theorem fG.XA {g:Hp}(hk:fG g){o:Nat}(hfit:dM 0 256 a o)(ht:t<3)(hd:∀q,cnt g.all q+hit ⟨a,o,t⟩ q<=1):
 fG {g with live:=dG g.live ⟨a,o,t⟩}/\∀q,cnt ({g with live:=dG g.live ⟨a,o,t⟩}:Hp).all q=cnt g.all q+hit ⟨a,o,t⟩ q:=by
 have c:∀q,cnt ({g with live:=dG g.live ⟨a,o,t⟩}:Hp).all q=cnt g.all q+hit ⟨a,o,t⟩ q:=λq=>by
  rw[dO,dO];simp only;rw[tJ];omega
 refine⟨⟨hk.o0,hk.o1,hk.f0,hk.e0,hk.e1,hk.m0,hk.m1,hk.cp,hk.lk,hk.lr,λb hb=> ?_,Qq hk.vs λx h e=> ?_,λq=>by rw[c];exact hd q⟩,c⟩
 ·rcases Iy hb with rfl | hb
  ·exact⟨hfit,ht⟩
  ·exact hk.lv b hb
 ·have k:=hd a;have i:=Xz g a;have f:=dN o;have d:=dN x.o;have l:0<cnt g.live a:=eG.2 ⟨x,h,by unfold inB;simp only at e;omega⟩;have j:hit ⟨a,o,t⟩ a=1:=kR.2 (by unfold inB;simp only;omega);omega
theorem fG.alloc (hk:fG h)(hc:cpu<h.aP)(ho:order<=4)(ht:t<3)(he:h.alloc cpu order t urgent low=aK (h',a)):
 fG h'/\(∀q,cnt h'.all q=cnt h.all q)/\Same h h'/\h'.live=dG h.live ⟨a,order,t⟩/\dM 0 256 a order:=by
 have key:∃g,Uz h order g a/\h'={g with live:=dG g.live ⟨a,order,t⟩}:=by
  unfold Hp.alloc at he;cases h1:h.attempt cpu order t urgent low with
  | some r=>
   rw[h1]at he;simp only[Option.some.injEq,Prod.mk.injEq]at he;obtain⟨rfl,rfl⟩:=he;exact⟨r.1,hk.attempt hc ho ht h1,rfl⟩
  | none=>
   rw[h1]at he;simp only at he;cases h2:h.drain.attempt cpu order t urgent low with
   | none=>rw[h2]at he;cases he
   | some r=>
    rw[h2]at he;simp only[Option.some.injEq,Prod.mk.injEq]at he;obtain⟨rfl,rfl⟩:=he;obtain⟨f,e,d,j,i⟩:=hk.drain;have b:=f.attempt (by rw[d.aP];exact hc) ho ht h2;exact⟨r.1,⟨b.ok,b.fit,λt p=>by rw[b.c,e],d.trans b.same,b.live.trans i⟩,rfl⟩
 obtain⟨g,b,rfl⟩:=key;obtain⟨k1,k2⟩:=b.ok.XA b.fit ht (λq=>by rw[b.c t q];exact hk.one q);exact⟨k1,λq=>by rw[k2,b.c t q],Same.trans b.same ⟨rfl,rfl,rfl,rfl⟩,by simp only;rw[b.live],b.fit⟩
theorem Qr {l:Ls}:∀x∈cO ls l p,x.key≠l.key->x∈ls:=by
 intro x a b;unfold cO at a;split at a
 ·rename_i y hy;split at a
  ·rename_i hk;rcases List.mem_or_eq_of_mem_set a with a | rfl
   ·exact a
   ·exact absurd hk b
  ·rw[gZ,gY]at a;rcases a with a | rfl | a
   ·exact List.mem_of_mem_take a
   ·exact absurd rfl b
   ·exact List.mem_of_mem_drop a
 ·rw[gZ,gY]at a;rcases a with a | rfl | a
  ·exact List.mem_of_mem_take a
  ·exact absurd rfl b
  ·exact List.mem_of_mem_drop a
theorem XB (ls:List Ls)(l:Ls)(p:Nat):∃x∈cO ls l p,x.key=l.key:=by
 unfold cO;split
 ·rename_i y hy;obtain⟨a,b⟩:=gK.1 hy;split
  ·rename_i hk;exact⟨{y with p:=y.p++[p]},List.mem_set a _,hk⟩
  ·exact⟨{l with p:=[p]},by simp,rfl⟩
 ·exact⟨{l with p:=[p]},by simp,rfl⟩
theorem SN (h:mJ ls)(l:Ls)(p:Nat):∃x,(cO ls l p)[kS (cO ls l p) l.key]? =aK x/\x.key=l.key/\x.p.length=zQ ls l.key+1:=by
 obtain⟨x,c,a⟩:=XB ls l p;have b:=SK (nI h l p) c;rw[a]at b;exact⟨x,b,a,EI h x c a⟩
theorem SQ {N:Nat}(h:∀x∈ls,x.p.length<=N):zQ ls k<=N:=by
 unfold zQ;cases hf:ls.find? λx=>decide (x.key=k)with
 | none=>exact gU _
 | some y=>exact h y (List.mem_of_find?_eq_some hf)
theorem fG.give (hk:fG h)(hc:cpu<h.aP)(hp:p<256)(hd:∀q,cnt h.all q+hit ⟨p,0,0⟩ q<=1):
 fG (h.give cpu p)/\(∀q,cnt (h.give cpu p).all q=cnt h.all q+hit ⟨p,0,0⟩ q)/\Same h (h.give cpu p)/\(h.give cpu p).live=h.live:=by
 unfold Hp.give;obtain⟨t,O⟩:∃t,(h.zone (h.jX p)).y.getD ((p-(h.zone (h.jX p)).f)/8) 0=t:=⟨_,rfl⟩
 have J:t<3:=by
  rw[<- O];have Y:=(hk.zone (h.jX p)).1.typ;rw[List.getD_eq_getElem?_getD];cases hg:(h.zone (h.jX p)).y[(p-(h.zone (h.jX p)).f)/8]? with
  | none=>simp
  | some u=>exact Y u (gM hg)
 rw[O];have F:h.jX p<2:=by unfold Hp.jX;split <;> omega
 have H:p<h.z0.e↔h.jX p=0:=by unfold Hp.jX;split <;> simp_all
 obtain⟨l,G⟩:∃l:Ls,l=⟨cpu,h.jX p,t,[]⟩:=⟨_,rfl⟩
 have r:l.c<h.aP/\l.z<2/\l.t<3:=by rw[G];exact⟨hc,F,J⟩
 have m:p<256/\(p<h.z0.e↔l.z=0):=by rw[G];exact⟨hp,H⟩
 rw[<- G];simp only;obtain⟨x,v,n,S⟩:=SN hk.lk l p;rw[v];simp only;have Q:=SQ (k:=l.key) (λx v=>(hk.lr x v).2.2.2.2.1);by_cases R:8<x.p.length
 ·rw[if_pos R];obtain⟨o,a⟩:=gK.1 v;have I:x∈cO h.ls l p:=by rw[<- a];exact gL o
  have h9:=JI (N:=8) (M:=9) hk.lr r m (by omega) (by omega) (λy i _=>by have:=(hk.lr y i).2.2.2.2.1;omega);obtain⟨V,q2,X,q4,q5,P⟩:=h9 x I;have C:∀q,cnt (mG x.p) q=cnt (mG (x.p.take 4)) q+cnt (mG (x.p.drop 4)) q:=λq=>by rw[<- jZ,List.take_append_drop]
  have L:∀q,cnt (lsB ((cO h.ls l p).set (kS (cO h.ls l p) l.key) {x with p:=x.p.drop 4})) q+cnt (mG (x.p.take 4)) q=cnt (lsB h.ls) q+hit ⟨p,0,0⟩ q:=λq=>by
   have s:=wB o {x with p:=x.p.drop 4} q;have h2:=cnt_push h.ls l p q;rw[a,C]at s;simp only at s;omega
  have d:∀q,cnt ({h with ls:=(cO h.ls l p).set (kS (cO h.ls l p) l.key) {x with p:=x.p.drop 4}}:Hp).all q+cnt (mG (x.p.take 4)) q=cnt h.all q+hit ⟨p,0,0⟩ q:=λq=>by
   rw[dO,dO];simp only;have:=L q;omega
  have B:fG {h with ls:=(cO h.ls l p).set (kS (cO h.ls l p) l.key) {x with p:=x.p.drop 4}}:=by
   refine⟨hk.o0,hk.o1,hk.f0,hk.e0,hk.e1,hk.m0,hk.m1,hk.cp,EH (nI hk.lk l p) o (by rw[a];rfl),λy i=> ?_,hk.lv,hk.vs,λq=>by have:=d q;have:=hd q;omega⟩;simp only at i ⊢;obtain⟨j,w,rfl⟩:=List.getElem_of_mem i;rw[List.length_set]at w;rw[List.getElem_set];by_cases g:kS (cO h.ls l p) l.key=j
   ·rw[if_pos g];exact⟨V,q2,X,by simp only[gTd];omega,by simp only[gTd];omega,λq E=>P q (List.mem_of_mem_drop E)⟩
   ·rw[if_neg g];refine hk.lr _ (Qr _ (gL w) λe=> ?_);rcases Nat.lt_or_gt_of_ne g with A | D
    ·have:=gN.1 (nI hk.lk l p) _ _ o w A;rw[a,n,e]at this;omega
    ·have:=gN.1 (nI hk.lk l p) _ _ w o D;rw[a,n,e]at this;omega
  obtain⟨k1,k2,U,k4,W⟩:=B.bK (x.p.take 4) (λq E=>(P q (List.mem_of_mem_take E)).1) (λq=>by rw[d];exact hd q);have e:Go.Proofs.YtjaogfhcnmjkiaaGreatDoor.bK {h with ls:=(cO h.ls l p).set (kS (cO h.ls l p) l.key) {x with p:=x.p.drop 4}} (x.p.take 4)={Go.Proofs.YtjaogfhcnmjkiaaGreatDoor.bK {h with ls:=cO h.ls l p} (x.p.take 4)with ls:=(cO h.ls l p).set (kS (cO h.ls l p) l.key) {x with p:=x.p.drop 4}}:=lG (x.p.take 4) {h with ls:=cO h.ls l p} _;rw[<- e];exact⟨k1,λq=>by rw[k2,d],Same.trans (b:={h with ls:=(cO h.ls l p).set (kS (cO h.ls l p) l.key) {x with p:=x.p.drop 4}}) ⟨rfl,rfl,rfl,rfl⟩ U,W⟩
 ·rw[if_neg R];obtain⟨Z,T⟩:=hk.push r m (λy i K=>by
   have s:=Na hk.lk i;rw[K]at s;omega) hd
  exact⟨Z,T,⟨rfl,rfl,rfl,rfl⟩,rfl⟩
theorem fG.fZ (hk:fG h)(hc:cpu<h.aP)(hi:i<h.live.length):
 fG (h.fZ cpu i h.live[i])/\(∀q,cnt (h.fZ cpu i h.live[i]).all q=cnt h.all q)/\Same h (h.fZ cpu i h.live[i])/\(h.fZ cpu i h.live[i]).live=h.live.eraseIdx i:=by
 have hb:=hk.lv _ (gL hi);have c:∀q,cnt ({h with live:=h.live.eraseIdx i}:Hp).all q+hit ⟨h.live[i].a,h.live[i].o,0⟩ q=cnt h.all q:=λq=>by
  have n:=BD hi q;have m:hit ⟨h.live[i].a,h.live[i].o,0⟩ q=hit h.live[i] q:=rfl;rw[dO,dO,m];simp only;omega
 have d:fG {h with live:=h.live.eraseIdx i}:=⟨hk.o0,hk.o1,hk.f0,hk.e0,hk.e1,hk.m0,hk.m1,hk.cp,hk.lk,hk.lr,λb hb=>hk.lv b ((List.eraseIdx_sublist _ _).subset hb),hk.vs.sublist (List.eraseIdx_sublist _ _),λq=>by have:=c q;have:=hk.one q;omega⟩
 unfold Hp.fZ;simp only;split
 ·obtain⟨f,e,g,j,k⟩:=d.jY hb.1 (λq=>by rw[c];exact hk.one q);exact⟨f,λq=>by rw[e,c],Same.trans (b:={h with live:=h.live.eraseIdx i}) ⟨rfl,rfl,rfl,rfl⟩ g,k⟩
 ·rename_i h0;have l:h.live[i].o=0:=by omega
  rw[l]at c;obtain⟨f,e,g,j⟩:=d.give (cpu:=cpu) hc hb.1.2.2.1 (λq=>by rw[c];exact hk.one q);exact⟨f,λq=>by rw[e,c],Same.trans (b:={h with live:=h.live.eraseIdx i}) ⟨rfl,rfl,rfl,rfl⟩ g,j⟩
def yZ:List Bk->Nat
 | []=>0
 | b::l=>2^b.o+yZ l
theorem Vu (l:List Bk)(i:Nat)(hi:i<l.length):yZ (l.take (i+1))=yZ (l.take i)+2^l[i].o:=by
 induction l generalizing i with
 | nil=>simp at hi
 | cons b l ih=>
  cases i with
  | zero=>simp[yZ]
  | succ i=>
   have a:i<l.length:=by simpa using hi
   rw[List.take_succ_cons,List.take_succ_cons,yZ,yZ,ih i a];simp only[List.getElem_cons_succ];omega
theorem aA7 (l:List Bk)(h:∀b∈l,b.o<=4):yZ l<=l.length*16:=by
 induction l with
 | nil=>simp[yZ]
 | cons b l ih=>
  have a:=ih (λb hb=>h b (by simp[hb]));have c:=yS (h b (by simp));simp only[yZ,List.length_cons];omega
theorem Yr (a1 a2:Option Addr)(n1 n2 c1 c2:Nat)(z:Zn)(w:World)(hat:IJ w a1 a2 n1 n2 z)(hz:z.ok):
 Calls prog 154 #[aC #[aB aI z.f,aB aI z.e,aA a1 n1 c1,aA a2 n2 c2]] w λev w'=>ev=aN (aG #[aB aI (yZ z.l:Nat),aB aI 0])/\Below w.heap.size w w':=by
 have B:z.l.length<=256:=gQ (sQ.length_le hz.2 (λb hb=>(hz.2.fit b hb).1.2.2.1)) hz.1.e2;obtain⟨A,M,m,j⟩:=boxes1 w #[aB aI (z.f:Int),aB aI (z.e:Int),aA a1 n1 c1,aA a2 n2 c2] 79;have u:=hat.below j;have l1:=hat.l1;clear hat
 go_enter func154,ntmps154
 go_wp2_with fail
 generalize w.alloc _=T at*;refine(qP _ _ _ _ _ _ z _ u hz).mono ?_;rintro ev y ⟨rfl,g⟩;have W:=aQ A m g;have G:=u.below g;have I:=gW j g;have L:=gI m g.size;clear A M u j g
 dsimp only
 go_wp2
 go_loopw [5,16] (λO k wr=>∃i:Nat,i<=n1/\k=aB aI (i:Int)/\O=aB aI (yZ (z.l.take i):Nat)/\Hid (Below y.heap.size y wr)) (λ_ k _=>n1-(intOf k).toNat)
 case atStart=>exact⟨0,gU _,rfl,rfl,gX _ _⟩
 case round=>
  obtain⟨i,U,rfl,rfl,hb⟩:=hrel;by_cases E:i<n1
  ·have d:i<z.l.length:=by omega
   obtain⟨R,off,s,K,D⟩:=aZ aX (by decide) (G.r1.below hb.out) d;obtain rfl:=s;obtain⟨F,Q,N⟩:=bZ D;have c:=(hz.2.fit _ (gL d)).1;have h:=gO (Vu z.l i d);have p:=aA7 (z.l.take i) (λb hb=>(hz.2.fit b (List.mem_of_mem_take hb)).1.1);rw[gTc]at p;have n:yZ (z.l.take i)<=5000:=by omega
   clear D p;generalize z.l[i]=x at*;have v:=wE c.1;have H:=yS c.1;have r:=gO (gW hb.out (aT wr (aO #[aB aI (x.a:Int),aB aI (x.o:Int),aB aI (x.t:Int)] 82)));obtain⟨S,C⟩:∃S,yZ (z.l.take i)=S:=⟨_,rfl⟩
   rw[C]at n h ⊢;clear C;have V:(i:Int)<n1:=by omega
   have J:wrap64 ((S:Int)+wrap64 (2^min x.o 64))=((S+2^x.o:Nat):Int):=by
    rw[show min x.o 64=x.o by have:=c.1;omega,v];generalize 2^x.o=q at*;have:=IntWalk.wrap64_in ((S:Int)+q) (by omega);rw[Int.natCast_add];exact this
   go_wp2
   go_roundw
   case rel=>exact⟨i+1,by omega,by go_num,by rw[h.out];simp only[Value.int.injEq,true_and];exact J,r⟩
   case measure=>simp[intOf];omega
  ·obtain rfl:i=n1:=by omega
   have P:z.l.take i=z.l:=by rw[<- l1,List.take_length]
   rw[P];go_wp2
   go_ret2
   exact⟨rfl,gW I hb.out⟩
theorem VO (a1 a2:Option Addr)(n1 n2 c1 c2:Nat)(z:Zn)(p:Nat)(w:World)(hat:IJ w a1 a2 n1 n2 z)(hz:z.ok)(h1:z.f<=p)(h2:p<z.e):
 Calls prog 88 #[aC #[aB aI z.f,aB aI z.e,aA a1 n1 c1,aA a2 n2 c2],aB aI p] w λev w'=>ev=aN (aG #[aB aI (z.y.getD ((p-z.f)/8) 0:Nat),aB aI 0])/\Below w.heap.size w w':=by
 have r:=hz.1.e2;obtain⟨m,u,i,b⟩:=boxes1 w #[aB aI (z.f:Int),aB aI (z.e:Int),aA a1 n1 c1,aA a2 n2 c2] 79;have h:=hat.below b;have l2:=hat.l2;have q:(p-z.f)/8<z.y.length:=by rw[hz.1.len];have:=hz.1.f16;have:=hz.1.e16;omega
 have n:z.y.getD ((p-z.f)/8) 0=z.y[(p-z.f)/8]:=by rw[List.getD_eq_getElem?_getD,gJ q];rfl
 rw[n];obtain⟨o,c⟩:∃o,z.y[(p-z.f)/8]=o:=⟨_,rfl⟩
 rw[c];have d:=gO c;clear hat n c;have E:decide (p<z.f)=false:=gV (by omega);have B:(p:Int)<z.e:=by omega
 have D:(z.f:Int)<=p:=by omega
 have v:((p:Int)-z.f)/8=(((p-z.f)/8:Nat):Int):=by omega
 have t:((((p-z.f)/8:Nat):Int))<n2:=by omega
 go_enter func88,ntmps88
 go_wp2_with fail
 generalize w.alloc _=G at*;refine(qP _ _ _ _ _ _ z _ h hz).mono ?_;rintro ev C ⟨rfl,a⟩;have H:=aQ m i a;have l:=h.below a;obtain⟨F,x,j,A,g⟩:=aZ dH (by decide) l.r2 q;obtain rfl:=j;have k:=lI g;rw[Nat.mul_one]at k;have s:=gW b a;clear g l h m u a b;rw[d.out]at k;clear d;generalize (p-z.f)/8=J at*;go_wp2
 go_ret2
 exact⟨rfl,s⟩
section
open Go.RowKit Go.WideShapes Go.ChangeShapes
section
variable {H:Type}{enc:TypeId×Value->H}{P:Program}
theorem Ba (hl:laidOutB P=true)(hb:Below W.heap.size W W'):∀(ts:List TypeId) (vs:List Value) (ds:List (DataW H)) (p:List MemPlace),
 (∀t∈ts,P.readableRec t=true/\t<P.types.size)->(∀x∈p,x.block<W.heap.size)->DataW.TrodAll enc P W 0 (λ_=>true) true ts vs ds p->DataW.TrodAll enc P W' 0 (λb=>decide (b<W.heap.size)) true ts vs ds p
 | [],[],[],p,_,_,h=>h
 | t::ts,v::vs,d::ds,p,hr,hp,h=>by
  obtain⟨p1,p2,h1,h2,rfl⟩:=h;refine⟨p1,p2,?_,Ba hl hb ts vs ds p2 (λt c=>hr t (by simp[c])) (λx a=>hp x (by simp[a])) h2,rfl⟩;have:=hr t (by simp);exact Below.trod hl this.1 this.2 h1 hb λx a=>hp x (by simp[a])
 | [],[],_::_,_,_,_,h=>h.elim
 | [],_::_,_,_,_,_,h=>h.elim
 | _::_,[],_,_,_,_,h=>h.elim
 | _::_,_::_,[],_,_,_,h=>h.elim
theorem aAm {f:Func}{s:ChangeSpec}{apart:Bool}{W W':World}{args:Array Value}{ds:List (DataW H)}{before:List MemPlace}
 (hl:laidOutB P=true) (hr:∀t∈f.params.toList,P.readableRec t=true/\t<P.types.size)
 (hW:DataW.Whole enc P f.params.toList s.vars apart W args.toList ds [] before) (hv:s.vars=[]) {tb:TypeId} (hres:f.resultTypes=#[tb]) (htb:P.underlying tb=aK .bool)
 (hf1:(s.fn H (ds++[])).results=[.lit (.bool true)]) (hf2:(s.fn H (ds++[])).args=ds) (hf3:(s.fn H (ds++[])).vars=[]) (hb:Below W.heap.size W W'):
 s.post enc P f apart true false false W args (.bool true) W':=by
 have a:∀p∈before,p.block<W.heap.size:=λp e=>hW.lt p e
 obtain⟨c,l,b,g,d,i,j⟩:=hW;refine⟨ds,[],before,[],c,[],⟨c,l,b,g,d,i,j⟩,?_,?_,?_,World.keptBut_mono (λp f=>f.elim) (hb.frame (λ_=>False)),λh=>by cases h⟩
 ·rw[hres,hf1];exact trodAll_mk1 (shut_bool htb true)
 ·rw[hf2];exact Ba hl hb _ _ _ _ hr (λx k=>a x (by rw[d];simp[k])) b
 ·rw[hv,hf3];rfl
end
section
variable {H:Type}{enc:TypeId×Value->H}{P:Program}
end
theorem WS {ad:Addr}{v:Value}(h:W.cell? (ad.add 0)=aK v):ad.spot=aJ:=by
 obtain⟨b,off,spot⟩:=ad;have e:(Addr.add ⟨b,off,spot⟩ 0)=⟨b,off,spot⟩:=rfl;rw[e]at h;unfold World.cell? at h;cases spot with
 | none=>rfl
 | some x=>exfalso;simp only at h;split at h <;> simp at h
end
end Go.Proofs.YtjaogfhcnmjkiaaGreatDoor

/- joined. -/
import Derived.Test.YtcmpmobhongkiaaGreatDoorRK0
import Derived.Test.YtcmpmobhongkiaaGreatDoorRK1
import Derived.Test.YtcmpmobhongkiaaGreatDoorRK4
import Derived.Test.YtcmpmobhongkiaaGreatDoorRK5
import Derived.Lib.SliceRun
import Derived.Deep.QuietTactic
import Derived.BigQuiet
import Derived.WalkSmall
set_option linter.unusedVariables false
set_option linter.unusedSimpArgs false
namespace Go.Proofs.YtcmpmobhongkiaaGreatDoor
section
open Go.RowKit
variable {α:Type}
def Uc (len at_ n:Int):Bool:=decide (0<=at_/\0<=n/\n<=len/\at_<=len-n)
theorem BN (a:Option Addr)(len cap:Nat)(at_ n:Int)(w:World)(hl:len<=9223372036854775807)(h1: -9223372036854775808<=n)(h2:n<=9223372036854775807):
 Calls Tryz.prog 142 #[.slice a len cap,.int .i64 at_,.int .i64 n] w fun e w'=>e= .returned (.bool (Uc len at_ n))/\w=w':=by
 by_cases c1:0<=at_
 ·by_cases c2:0<=n
  ·by_cases c3:n<=(len:Int)
   ·by_cases c4:at_<=(len:Int)-n
    ·go_enter Tryz.func142,Tryz.ntmps142
     go_wp2
     go_ret
     exact⟨aV (decide_eq_true (by omega)).symm,rfl⟩
    ·go_enter Tryz.func142,Tryz.ntmps142
     go_wp2
     go_ret
     exact⟨aV (decide_eq_false (by omega)).symm,rfl⟩
   ·go_enter Tryz.func142,Tryz.ntmps142
    go_wp2
    go_ret
    exact⟨aV (decide_eq_false (by omega)).symm,rfl⟩
  ·go_enter Tryz.func142,Tryz.ntmps142
   go_wp2
   go_ret
   exact⟨aV (decide_eq_false (by omega)).symm,rfl⟩
 ·go_enter Tryz.func142,Tryz.ntmps142
  go_wp2
  go_ret
  exact⟨aV (decide_eq_false (by omega)).symm,rfl⟩
def BO (p:α->Bool)(xs:List α):Int:=match xs.findIdx? p with | some i=>(i:Int) | none=> -1
theorem QZ {p:α->Bool}{xs:List α}{k:Nat}(hk:k<xs.length)(h:p xs[k]=true)(hn:∀x∈xs.take k,p x=false):BO p xs=k:=by
 have e:xs.findIdx? p=some k:=by
  rw[List.findIdx?_eq_some_iff_getElem];refine⟨hk,h,fun j hj=> ?_⟩;have:=hn (xs[j]'(by omega)) (by rw[List.mem_take_iff_getElem];exact⟨j,by omega,rfl⟩);simp[this]
 simp[BO,e]
theorem NJ {p:α->Bool}{xs:List α}(hn:∀x∈xs,p x=false):BO p xs= -1:=by
 have e:xs.findIdx? p=none:=by rw[List.findIdx?_eq_none_iff];exact hn
 simp[BO,e]
theorem Rf (a:Option Addr)(cap:Nat)(xs:List Int)(v:Int)(w:World)(hl:xs.length<=9223372036854775807)(hr:Row w a (xs.map vI)):
 Calls Tryz.prog 80 #[.slice a xs.length cap,.int .i64 v] w fun e w'=>e= .returned (.int .i64 (BO (v == ·) xs))/\w=w':=by
 go_enter Tryz.func80,Tryz.ntmps80
 go_wp2
 go_loop [5,8] (fun _ s8=>∃k:Nat,k<=xs.length/\s8= .int .i64 k/\Hid (∀x∈xs.take k,(v == x)=false)) (fun _ s8=>xs.length-(intOf s8).toNat)
 case atStart=>exact⟨0,Nat.zero_le _,rfl,by simp[Hid]⟩
 case round=>
  obtain⟨k,hk,rfl,hnot⟩:=hrel;by_cases hlt:k<xs.length
  ·obtain⟨b,off,rfl,hb,hc⟩:=hr k (vI xs[k]) (by simp[hlt]);simp only[vI]at hc;clear hr;cases hv:v == xs[k]with
   | true=>
    go_wp2
    go_ret
    exact⟨dP (QZ hlt hv hnot.out).symm,rfl⟩
   | false=>
    go_wp2
    go_round
    case rel=>exact⟨k+1,by omega,by go_num,fun x hx=>by
     rw[List.take_succ_eq_append_getElem hlt,List.mem_append,List.mem_singleton]at hx;rcases hx with hx | rfl
     ·exact hnot.out x hx
     ·exact hv⟩
    case measure=>simp[intOf];omega
  ·obtain rfl:k=xs.length:=by omega
   go_wp2
   go_ret
   exact⟨dP (NJ (by simpa[Hid]using hnot)).symm,rfl⟩
theorem GI (p:α->Bool)(xs:List α):decide (0<=BO p xs)=xs.any p:=by
 unfold BO;cases h:xs.findIdx? p with
 | none=>rw[List.findIdx?_eq_none_iff]at h;symm;simpa using h
 | some i=>rw[List.findIdx?_eq_some_iff_getElem]at h;obtain⟨hi,hp,_⟩:=h;symm;simp only[Int.natCast_nonneg,decide_true,List.any_eq_true];exact⟨_,gL hi,hp⟩
def tN (xs:List Int)(v:Int):Bool:=xs.contains v
theorem jH (a:Option Addr)(cap:Nat)(xs:List Int)(v:Int)(w:World)(hl:xs.length<=9223372036854775807)(hr:Row w a (xs.map vI)):
 Calls Tryz.prog 35 #[.slice a xs.length cap,.int .i64 v] w fun e w'=>e= .returned (.bool (tN xs v))/\w=w':=by
 go_enter Tryz.func35,Tryz.ntmps35
 go_wp2_with (go_at_call 80;refine(Rf _ _ _ _ _ hl hr).mono ?_;rintro e w' ⟨rfl,rfl⟩)
 go_ret
 exact⟨aV (by rw[GI,tN,List.contains_eq_any_beq]),rfl⟩
theorem ET:(Tryz.prog.info? 3).map (fun i=>(i.zero,i.size,i.bytes))=some (some (.int .i64 0),1,8):=by kernel_rfl
theorem Uo (xs:List Int):∀u∈xs.map vI,u.oneCell'=true:=by
 intro u hu;obtain⟨x,_,rfl⟩:=List.mem_map.1 hu;rfl
theorem EU (a:Option Addr)(cap:Nat)(xs:List Int)(w:World)(hl:xs.length*8<=140737488355328)(hr:Row w a (xs.map vI)):
 Calls Tryz.prog 85 #[.slice a xs.length cap] w fun e w'=>∃a' c',e= .returned (.slice a' xs.length c')/\w'.ownsRow w.heap.size 3 1 (.slice a' xs.length c') xs.length (xs.map vI)/\Below w.heap.size w w':=by
 have q22:∀(w:World) (a:Option Addr) (n c n' c':Nat),(binOp .eql 39 (.slice a n c) (.slice none n' c')).run Tryz.prog w= .ok (.bool a.isNone) w:=fun w a n c n' c'=>Lib.run_eql_slice_nil w _ _ a n c n' c' Tryz.underlying39
 cases a with
 | none=>
  have hx:xs=[]:=by
   cases xs with
   | nil=>rfl
   | cons u l=>obtain⟨b,off,e1,_⟩:=hr 0 (vI u) rfl;cases e1
  subst hx;go_enter Tryz.func85,Tryz.ntmps85
  go_wp2
  go_ret
  exact⟨none,0,rfl,World.ownsRow_nil _ _ _ _,Below.refl _ _⟩
 | some ad=>
  go_enter Tryz.func85,Tryz.ntmps85
  go_wp2_with (at_builtin;refine iI rfl _ _ 39 rfl w.heap.size 3 (.int .i64 0) 1 8 Tryz.underlying39 ET rfl (by decide) (by decide) _ _ _ _ rfl (World.ownsRow_made w #[] 0 (Nat.le_refl _) (Nat.zero_le _) (by simp)) (some ad) xs.length cap (xs.map vI) rfl ?q1 ?q2 ?q3 ?q4 ?q5 ?_)
  case q1=>simp
  case q2=>exact hr.below ((Below.refl _ _).alloc (Nat.le_refl _) _)
  case q3=>exact Uo xs
  case q4=>rw[Nat.zero_add];exact hl
  case q5=>simp
  intro a' c' w1 hown hgrow;go_wp2
  go_ret
  exact⟨a',c',rfl,hown,((Below.refl _ w).alloc (Nat.le_refl _) _).grown hgrow (by simp) (by intro k hk;simp[Value.ownBlock]at hk;omega)⟩
theorem Ur {w:World}{a:Option Addr}{xs:List Int}(hr:Row w a (xs.map vI)){k:Nat}(h:k<xs.length):
 ∃b off,a=some ⟨b,off,none⟩/\b<w.heap.size/\w.cell? ⟨b,off+k,none⟩=some (.int .i64 xs[k]):=
 hr k (vI xs[k]) (by simp[h])
end
section
def wC (b:Bk):Nat×Nat:=(b.a,b.o)
end
section
def hit (b:Bk)(p:Nat):Nat:=if b.a<=p/\p<b.fin then 1 else 0
def cnt:List Bk->Nat->Nat
 | [],_=>0
 | b::l,p=>hit b p+cnt l p
theorem bP (l m:List Bk)(p:Nat):cnt (l++m) p=cnt l p+cnt m p:=by
 induction l with
 | nil=>simp[cnt]
 | cons b l ih=>rw[List.cons_append,cnt,cnt,ih];omega
theorem jI {b:Bk}{p:Nat}:hit b p=1↔inB b.a b.o p:=by
 unfold hit inB Bk.fin;split <;> simp_all
theorem GR (b:Bk)(p:Nat):hit b p<=1:=by unfold hit;split <;> omega
theorem iL {l:List Bk}{p:Nat}:0<cnt l p↔fG l p:=by
 induction l with
 | nil=>simp[cnt,fG]
 | cons b l ih=>
  rw[cnt];constructor
  ·intro h;by_cases hb:hit b p=1
   ·exact⟨b,by simp,jI.1 hb⟩
   ·have h1:=GR b p;obtain⟨c,hc,hp⟩:=ih.1 (by omega);exact⟨c,by simp[hc],hp⟩
  ·rintro⟨c,hc,hp⟩;rw[List.mem_cons]at hc;rcases hc with rfl | hc
   ·have:=jI.2 hp;omega
   ·have:=ih.2 ⟨c,hc,hp⟩;omega
theorem mM {l:List Bk}(hd:l.Pairwise fun b c=>apartB b.a b.o c)(p:Nat):cnt l p<=1:=by
 induction l with
 | nil=>simp[cnt]
 | cons b l ih=>
  obtain⟨h1,h2⟩:=List.pairwise_cons.1 hd;rw[cnt];have h3:=GR b p;have h4:=ih h2;by_cases hb:hit b p=1
  ·have hz:¬0<cnt l p:=fun h=>by
    obtain⟨c,hc,hp⟩:=iL.1 h;exact jP (h1 c hc) p (jI.1 hb) hp
   omega
  ·omega
theorem mO {l:List Bk}(h:l.Pairwise fun x y=>x.fin<=y.a):l.Pairwise fun b c=>apartB b.a b.o c:=h.imp fun{x y} h=>by unfold apartB Bk.fin at*;omega
theorem Uy {z z':Zn}{order at_:Nat}(hz:z.ok)(ht:Taken z order z' at_)(t:Nat)(p:Nat):cnt z'.l p+hit ⟨at_,order,t⟩ p=cnt z.l p:=by
 have h1:=mM (mO hz.2.sep) p;have h2:=mM (mO ht.ok.2.sep) p;have h3:=ht.Uu p;have h4:=GR ⟨at_,order,t⟩ p;have h5:hit ⟨at_,order,t⟩ p=1↔inB at_ order p:=jI;have c1:=@iL z.l p;have c2:=@iL z'.l p;by_cases hp:inB at_ order p
 ·have e1:=h5.2 hp;have e2:¬0<cnt z'.l p:=fun h=>by
   obtain⟨c,hc,hcp⟩:=c2.1 h;exact jP (ht.apart c hc) p hp hcp
  have e3:=c1.2 (h3.1 (.inr hp));omega
 ·have e1:hit ⟨at_,order,t⟩ p=0:=by
   have:¬hit ⟨at_,order,t⟩ p=1:=fun h=>hp (h5.1 h)
   omega
  by_cases hc:fG z.l p
  ·have e2:=c1.2 hc;rcases h3.2 hc with h | h
   ·have:=c2.2 h;omega
   ·exact absurd h hp
  ·have e2:¬0<cnt z.l p:=fun h=>hc (c1.1 h)
   have e3:¬0<cnt z'.l p:=fun h=>hc (h3.1 (.inl (c2.1 h)))
   omega
theorem Uz {z:Zn}(hz:z.ok){a o:Nat}(hb:cZ z.f z.e a o)(hd:∀x∈z.l,apartB a o x)(t p:Nat):cnt (z.back a o).l p=cnt z.l p+hit ⟨a,o,t⟩ p:=by
 obtain⟨g1,g2⟩:=Zn.rV hz hb hd;have h1:=mM (mO hz.2.sep) p;have h2:=mM (mO g1.2.sep) p;have h3:=g2 p;have h4:=GR ⟨a,o,t⟩ p;have h5:hit ⟨a,o,t⟩ p=1↔inB a o p:=jI;have c1:=@iL z.l p;have c2:=@iL (z.back a o).l p;by_cases hp:inB a o p
 ·have e1:=h5.2 hp;have e2:¬0<cnt z.l p:=fun h=>by
   obtain⟨c,hc,hcp⟩:=c1.1 h;exact jP (hd c hc) p hp hcp
  have e3:=c2.2 (h3.2 (.inr hp));omega
 ·have e1:hit ⟨a,o,t⟩ p=0:=by
   have:¬hit ⟨a,o,t⟩ p=1:=fun h=>hp (h5.1 h)
   omega
  by_cases hc:fG z.l p
  ·have e2:=c1.2 hc;have e3:=c2.2 (h3.2 (.inl hc));omega
  ·have e2:¬0<cnt z.l p:=fun h=>hc (c1.1 h)
   have e3:¬0<cnt (z.back a o).l p:=fun h=>by
    rcases h3.1 (c2.1 h)with h' | h'
    ·exact hc h'
    ·exact hp h'
   omega
def sumTo (f:Nat->Nat):Nat->Nat
 | 0=>0
 | n+1=>sumTo f n+f n
theorem Fa (f g:Nat->Nat):∀n,sumTo (fun p=>f p+g p) n=sumTo f n+sumTo g n
 | 0=>rfl
 | n+1=>by rw[sumTo,sumTo,sumTo,Fa f g n];omega
theorem Fb (b:Bk):∀n,sumTo (hit b) n=min n b.fin-min n b.a
 | 0=>by simp[sumTo]
 | n+1=>by
  rw[sumTo,Fb b n];unfold hit;have h1:b.a<b.fin:=by unfold Bk.fin;have:=dR b.o;omega
  split <;> omega
def szB:List Bk->Nat
 | []=>0
 | b::l=>2^b.o+szB l
theorem Rk {l:List Bk}{N:Nat}(h:∀b∈l,b.fin<=N):sumTo (cnt l) N=szB l:=by
 induction l with
 | nil=>
  have:∀n,sumTo (cnt []) n=0:=fun n=>by
   induction n with
   | zero=>rfl
   | succ n ih=>rw[sumTo,ih];rfl
  rw[this];rfl
 | cons b l ih=>
  have h1:cnt (b::l)=fun p=>hit b p+cnt l p:=rfl
  rw[h1,Fa,Fb,ih (fun c hc=>h c (by simp[hc])),szB];have h2:=h b (by simp);unfold Bk.fin at*;generalize 2^b.o=q at*;rw[Nat.min_eq_right h2,Nat.min_eq_right (by omega)];omega
end
section
structure Ls where
 c:Nat
 z:Nat
 t:Nat
 p:List Nat
deriving DecidableEq
def Ls.key (l:Ls):Nat:=(l.c*2+l.z)*3+l.t
def kR (l:List Nat):List Bk:=l.map fun p=>⟨p,0,0⟩
def lsB:List Ls->List Bk
 | []=>[]
 | l::r=>kR l.p++lsB r
structure Hp where
 z0:Zn
 z1:Zn
 m0:Nat
 m1:Nat
 aC:Nat
 ls:List Ls
 live:List Bk
deriving DecidableEq
def Hp.all (h:Hp):List Bk:=h.z0.l++(h.z1.l++(lsB h.ls++h.live))
def aFk (aC split:Nat)(l:Ls):Prop:=l.c<aC/\l.z<2/\l.t<3/\0<l.p.length/\l.p.length<=8/\∀p∈l.p,p<256/\(p<split↔l.z=0)
structure dZ (h:Hp):Prop where
 o0:h.z0.ok
 o1:h.z1.ok
 f0:h.z0.f=0
 e0:h.z0.e=h.z1.f
 e1:h.z1.e=256
 m0:h.m0<=256
 m1:h.m1<=256
 cp:1<=h.aC/\h.aC<=4
 lk:h.ls.Pairwise fun a b=>a.key<b.key
 lr:∀l∈h.ls,aFk h.aC h.z0.e l
 lv:∀b∈h.live,cZ 0 256 b.a b.o/\b.t<3
 vs:h.live.Pairwise fun x y=>x.a<y.a
 one:∀p,cnt h.all p<=1
def Hp.zone (h:Hp)(i:Nat):Zn:=if i=0 then h.z0 else h.z1
def Hp.jD (h:Hp)(i:Nat)(z:Zn):Hp:=if i=0 then{h with z0:=z}else{h with z1:=z}
def Hp.iR (h:Hp)(p:Nat):Nat:=if p<h.z0.e then 0 else 1
def Hp.min (h:Hp)(i:Nat):Nat:=if i=0 then h.m0 else h.m1
def Hp.iT (h:Hp)(a o:Nat):Hp:=h.jD (h.iR a) ((h.zone (h.iR a)).back a o)
def Hp.held (h:Hp)(i:Nat)(urgent low:Bool):Nat:=(if urgent then h.min i/2 else h.min i)+(if i=0/\low=false then(h.z1.e-h.z1.f)/32 else 0)
def Hp.lF (h:Hp)(i order t hd:Nat):Option (Hp×Nat):=if szB (h.zone i).l<hd+2^order then none else match (h.zone i).take order t with
 | some (z',a)=>some (h.jD i z',a)
 | none=>none
def jJ (ls:List Ls)(k:Nat):Nat:=(ls.takeWhile fun l=>decide (l.key<k)).length
def qQ (ls:List Ls)(k:Nat):Bool:=match ls[jJ ls k]? with
 | some l=>decide (l.key=k)
 | none=>false
def bG (ls:List Ls)(l:Ls)(p:Nat):List Ls:=match ls[jJ ls l.key]? with
 | some x=>if x.key=l.key then ls.set (jJ ls l.key) {x with p:=x.p++[p]}else ls.take (jJ ls l.key)++{l with p:=[p]}::ls.drop (jJ ls l.key)
 | none=>ls.take (jJ ls l.key)++{l with p:=[p]}::ls.drop (jJ ls l.key)
def Hp.fill (h:Hp)(l:Ls)(hd:Nat):Nat->Hp
 | 0=>h
 | n+1=>match h.lF l.z 0 l.t hd with
  | some (h',q)=>Hp.fill {h' with ls:=bG h'.ls l q} l hd n
  | none=>h
def Hp.single (h:Hp)(l:Ls)(hd:Nat):Option (Hp×Nat):=match h.ls[jJ h.ls l.key]? with
 | some x=>if x.key=l.key then some ({h with ls:=if x.p.length=1 then h.ls.eraseIdx (jJ h.ls l.key)else h.ls.set (jJ h.ls l.key) {x with p:=x.p.dropLast}},x.p.getLastD 0)else(h.lF l.z 0 l.t hd).map fun r=>(r.1.fill l hd 3,r.2)
 | none=>(h.lF l.z 0 l.t hd).map fun r=>(r.1.fill l hd 3,r.2)
def Hp.ask (h:Hp)(cpu i order t:Nat)(urgent low:Bool):Option (Hp×Nat):=if order=0 then h.single ⟨cpu,i,t,[]⟩ (h.held i urgent low)else h.lF i order t (h.held i urgent low)
def Hp.attempt (h:Hp)(cpu order t:Nat)(urgent low:Bool):Option (Hp×Nat):=
 if low then h.ask cpu 0 order t urgent low else match h.ask cpu 1 order t urgent low with
  | some r=>some r
  | none=>h.ask cpu 0 order t urgent low
def aU (h:Hp):List Nat->Hp
 | []=>h
 | p::l=>aU (h.iT p 0) l
def bW (h:Hp):List Ls->Hp
 | []=>h
 | l::r=>bW (aU h l.p) r
def Hp.drain (h:Hp):Hp:={bW h h.ls with ls:=[]}
def Hp.alloc (h:Hp)(cpu order t:Nat)(urgent low:Bool):Option (Hp×Nat):=
 match (match h.attempt cpu order t urgent low with
  | some r=>some r
  | none=>h.drain.attempt cpu order t urgent low)with
 | some (h',a)=>some ({h' with live:=bF h'.live ⟨a,order,t⟩},a)
 | none=>none
def Hp.give (h:Hp)(cpu p:Nat):Hp:=
 let l:Ls:=⟨cpu,h.iR p,(h.zone (h.iR p)).y.getD ((p-(h.zone (h.iR p)).f)/8) 0,[]⟩
 let h1:={h with ls:=bG h.ls l p}
 match h1.ls[jJ h1.ls l.key]? with
 | some x=>if 8<x.p.length then{aU h1 (x.p.take 4)with ls:=h1.ls.set (jJ h1.ls l.key) {x with p:=x.p.drop 4}}else h1
 | none=>h1
def Hp.fZ (h:Hp)(cpu i:Nat)(b:Bk):Hp:=
 let h1:={h with live:=h.live.eraseIdx i}
 if 0<b.o then h1.iT b.a b.o else h1.give cpu b.a
end
section
theorem dI (h:Hp)(p:Nat):cnt h.all p=cnt h.z0.l p+cnt h.z1.l p+cnt (lsB h.ls) p+cnt h.live p:=by
 unfold Hp.all;rw[bP,bP,bP];omega
theorem BU (h:Hp)(i p:Nat):cnt (h.zone i).l p<=cnt h.all p:=by
 rw[dI];unfold Hp.zone;split <;> omega
theorem Jy (h:Hp)(i:Nat)(z:Zn)(p:Nat):cnt (h.jD i z).all p+cnt (h.zone i).l p=cnt h.all p+cnt z.l p:=by
 rw[dI,dI];unfold Hp.jD Hp.zone;split <;> simp only <;> omega
theorem dZ.zone {h:Hp}(hk:dZ h)(i:Nat):(h.zone i).ok:=by
 unfold Hp.zone;split
 ·exact hk.o0
 ·exact hk.o1
theorem dZ.jD {h:Hp}(hk:dZ h)(i:Nat){z:Zn}(hz:z.ok)(hf:z.f=(h.zone i).f)(he:z.e=(h.zone i).e)(h1:∀p,cnt (h.jD i z).all p<=1):dZ (h.jD i z):=by
 by_cases hi:i=0
 ·subst hi;have e:h.jD 0 z={h with z0:=z}:=if_pos rfl;have e2:h.zone 0=h.z0:=if_pos rfl;rw[e2]at hf he;rw[e]at h1 ⊢;exact⟨hz,hk.o1,hf.trans hk.f0,he.trans hk.e0,hk.e1,hk.m0,hk.m1,hk.cp,hk.lk,fun l hl=>by simp only;rw[he];exact hk.lr l hl,hk.lv,hk.vs,h1⟩
 ·have e:h.jD i z={h with z1:=z}:=if_neg hi;have e2:h.zone i=h.z1:=if_neg hi;rw[e2]at hf he;rw[e]at h1 ⊢;exact⟨hk.o0,hz,hk.f0,hk.e0.trans hf.symm,he.trans hk.e1,hk.m0,hk.m1,hk.cp,hk.lk,hk.lr,hk.lv,hk.vs,h1⟩
structure Same (h g:Hp):Prop where
 m0:g.m0=h.m0
 m1:g.m1=h.m1
 aC:g.aC=h.aC
 split:g.z0.e=h.z0.e
theorem Same.refl (h:Hp):Same h h:=⟨rfl,rfl,rfl,rfl⟩
theorem Same.trans {a b c:Hp}(h1:Same a b)(h2:Same b c):Same a c:=⟨h2.m0.trans h1.m0,h2.m1.trans h1.m1,h2.aC.trans h1.aC,h2.split.trans h1.split⟩
theorem Fe {h:Hp}{i:Nat}{z:Zn}(he:z.e=(h.zone i).e):Same h (h.jD i z)/\(h.jD i z).ls=h.ls/\(h.jD i z).live=h.live:=by
 unfold Hp.jD;unfold Hp.zone at he;split
 ·rename_i hi;rw[if_pos hi]at he;exact⟨⟨rfl,rfl,rfl,he⟩,rfl,rfl⟩
 ·exact⟨⟨rfl,rfl,rfl,rfl⟩,rfl,rfl⟩
theorem dZ.fits {h:Hp}(hk:dZ h){a o:Nat}(hb:cZ 0 256 a o):cZ (h.zone (h.iR a)).f (h.zone (h.iR a)).e a o:=by
 obtain⟨h1,h2,h3,h4⟩:=hb;unfold Hp.iR;by_cases hlt:a<h.z0.e
 ·rw[if_pos hlt];have e:h.zone 0=h.z0:=if_pos rfl;rw[e,hk.f0];exact⟨h1,by omega,hlt,h4⟩
 ·rw[if_neg hlt];have e:h.zone 1=h.z1:=if_neg (by omega);rw[e,hk.e1,<- hk.e0];exact⟨h1,by omega,h3,h4⟩
theorem dZ.iT {h:Hp}(hk:dZ h){a o:Nat}(hb:cZ 0 256 a o)(hd:∀p,cnt h.all p+hit ⟨a,o,0⟩ p<=1):
 dZ (h.iT a o)/\(∀p,cnt (h.iT a o).all p=cnt h.all p+hit ⟨a,o,0⟩ p)/\Same h (h.iT a o)/\(h.iT a o).ls=h.ls/\(h.iT a o).live=h.live:=by
 have hz:=hk.zone (h.iR a);have hfit:=hk.fits hb;have hap:∀x∈(h.zone (h.iR a)).l,apartB a o x:=fun x hx=>dG fun p h1 h2=>by
  have g1:=hd p;have g2:=BU h (h.iR a) p;have g3:=iL.2 (show fG (h.zone (h.iR a)).l p from⟨x,hx,h2⟩);have g4:hit ⟨a,o,0⟩ p=1:=jI.2 h1;omega
 have hc:∀p,cnt (h.iT a o).all p=cnt h.all p+hit ⟨a,o,0⟩ p:=fun p=>by
  have g1:=Jy h (h.iR a) ((h.zone (h.iR a)).back a o) p;have g2:=Uz hz hfit hap 0 p;unfold Hp.iT;omega
 have hs:=Fe (h:=h) (i:=h.iR a) (z:=(h.zone (h.iR a)).back a o) rfl;exact⟨hk.jD _ (Zn.rV hz hfit hap).1 rfl rfl (fun p=>by have:=hc p;unfold Hp.iT at this;rw[this];exact hd p),hc,hs.1,hs.2.1,hs.2.2⟩
theorem UA {z:Zn}(hz:z.ok):szB z.l<=256:=by
 have h1:∀b∈z.l,b.fin<=256:=fun b hb=>by
  have h2:=(hz.2.fit b hb).1;have h3:=uF hz.1.e16 h2;have h4:=hz.1.e2;unfold Bk.fin;omega
 rw[<- Rk h1];have h5:∀n,sumTo (cnt z.l) n<=n:=fun n=>by
  induction n with
  | zero=>exact Nat.le_refl _
  | succ n ih=>
   have:=mM (mO hz.2.sep) n;rw[sumTo];omega
 exact h5 256
structure Rl (h:Hp)(order:Nat)(h':Hp)(a:Nat):Prop where
 ok:dZ h'
 fit:cZ 0 256 a order
 c:∀t p,cnt h'.all p+hit ⟨a,order,t⟩ p=cnt h.all p
 same:Same h h'
 live:h'.live=h.live
theorem dZ.lF {h h':Hp}(hk:dZ h){i order t hd a:Nat}(ho:order<=4)(ht:t<3)(hi:i<2)(he:h.lF i order t hd=some (h',a)):
 Rl h order h' a/\h'.ls=h.ls/\(a<h.z0.e↔i=0):=by
 unfold Hp.lF at he;split at he
 ·cases he
 ·cases hz:(h.zone i).take order t with
  | none=>rw[hz]at he;cases he
  | some r=>
   obtain⟨z',a'⟩:=r;rw[hz]at he;simp only[Option.some.injEq,Prod.mk.injEq]at he;obtain⟨rfl,rfl⟩:=he;have Ep:=hk.zone i;have hex:∃b∈(h.zone i).l,order<=b.o:=Classical.byContradiction fun hn=>by
    rw[Zn.EZ hn]at hz;cases hz
   obtain⟨z2,a2,h1,hT⟩:=Zn.EY Ep ho ht hex;rw[hz]at h1;simp only[Option.some.injEq,Prod.mk.injEq]at h1;obtain⟨rfl,rfl⟩:=h1;have hc:∀t p,cnt (h.jD i z').all p+hit ⟨a',order,t⟩ p=cnt h.all p:=fun t p=>by
    have g1:=Jy h i z' p;have g2:=Uy Ep hT t p;omega
   have hs:=Fe (h:=h) (i:=i) (z:=z') hT.e;have hfit:=hT.fit;have hbound:cZ 0 256 a' order/\(a'<h.z0.e↔i=0):=by
    obtain⟨g1,g2,g3,g4⟩:=hfit;unfold Hp.zone at g2 g3;by_cases hi0:i=0
    ·rw[if_pos hi0]at g2 g3;have:=hk.o0.1.e2;exact⟨⟨g1,by omega,by omega,g4⟩,fun _=>hi0,fun _=>g3⟩
    ·rw[if_neg hi0]at g2 g3;have:=hk.e1;have:=hk.e0;exact⟨⟨g1,by omega,by omega,g4⟩,fun h=>by omega,fun h=>absurd h hi0⟩
   exact⟨⟨hk.jD i hT.ok hT.f hT.e (fun p=>by have:=hc 0 p;have:=hk.one p;omega),hbound.1,hc,hs.1,hs.2.2⟩,hs.2.1,hbound.2⟩
end
section
theorem NR (l m:List Ls):lsB (l++m)=lsB l++lsB m:=by
 induction l with
 | nil=>rfl
 | cons x l ih=>rw[List.cons_append,lsB,lsB,ih,List.append_assoc]
theorem iU (l m:List Nat)(q:Nat):cnt (kR (l++m)) q=cnt (kR l) q+cnt (kR m) q:=by
 unfold kR;rw[List.map_append,bP]
theorem AL (p q:Nat):cnt (kR [p]) q=hit ⟨p,0,0⟩ q:=rfl
theorem jU (l m:List Ls)(q:Nat):cnt (lsB (l++m)) q=cnt (lsB l) q+cnt (lsB m) q:=by rw[NR,bP]
theorem iD (x:Ls)(l:List Ls)(q:Nat):cnt (lsB (x::l)) q=cnt (kR x.p) q+cnt (lsB l) q:=by rw[lsB,bP]
theorem BZ {l:List Ls}{i:Nat}(hi:i<l.length):l=l.take i++l[i]::l.drop (i+1):=by
 rw[<- List.drop_eq_getElem_cons hi,List.take_append_drop]
theorem uH {l:List Ls}{i:Nat}(hi:i<l.length)(x:Ls)(q:Nat):cnt (lsB (l.set i x)) q+cnt (kR l[i].p) q=cnt (lsB l) q+cnt (kR x.p) q:=by
 have h1:l.set i x=l.take i++x::l.drop (i+1):=by rw[List.set_eq_take_append_cons_drop,if_pos hi]
 conv=>rhs;rw[BZ hi]
 rw[h1,jU,jU,iD,iD];omega
theorem wI {l:List Ls}{i:Nat}(hi:i<l.length)(q:Nat):cnt (lsB (l.eraseIdx i)) q+cnt (kR l[i].p) q=cnt (lsB l) q:=by
 conv=>rhs;rw[BZ hi]
 rw[List.eraseIdx_eq_take_drop_succ,jU,jU,iD];omega
theorem AO (l:List Ls)(i:Nat)(x:Ls)(q:Nat):cnt (lsB (l.take i++x::l.drop i)) q=cnt (lsB l) q+cnt (kR x.p) q:=by
 conv=>rhs;rw[<- List.take_append_drop i l]
 rw[jU,jU,iD];omega
theorem cnt_push (ls:List Ls)(l:Ls)(p q:Nat):cnt (lsB (bG ls l p)) q=cnt (lsB ls) q+hit ⟨p,0,0⟩ q:=by
 unfold bG;split
 ·rename_i x hx;obtain⟨hi,hxi⟩:=List.getElem?_eq_some_iff.1 hx;split
  ·have h:=uH hi {x with p:=x.p++[p]} q;rw[hxi]at h;simp only[iU,AL]at h;omega
  ·rw[AO];rfl
 ·rw[AO];rfl
def kS (ls:List Ls):Prop:=ls.Pairwise fun a b=>a.key<b.key
theorem UC (ls:List Ls)(k:Nat):jJ ls k<=ls.length:=by
 unfold jJ;exact(List.takeWhile_prefix _).length_le
theorem zD {ls:List Ls}{k:Nat}:∀x∈ls.take (jJ ls k),x.key<k:=by
 intro x hx;unfold jJ at hx;rw[BG]at hx;exact of_decide_eq_true (NM (p:=fun l:Ls=>decide (l.key<k)) hx)
theorem vO {ls:List Ls}(h:kS ls){k:Nat}:∀x∈ls.drop (jJ ls k),k<=x.key:=by
 intro x hx;unfold jJ at hx;rw[drop_tw]at hx
 induction ls with
 | nil=>simp at hx
 | cons y ls ih=>
  obtain⟨h1,h2⟩:=List.pairwise_cons.1 h;by_cases hy:y.key<k
  ·rw[List.dropWhile_cons_of_pos (by simpa using hy)]at hx;exact ih h2 hx
  ·rw[List.dropWhile_cons_of_neg (by simpa using hy),List.mem_cons]at hx;rcases hx with rfl | hx
   ·omega
   ·have:=h1 x hx;omega
theorem Cb {ls:List Ls}(h:kS ls){i:Nat}(hi:i<ls.length){x:Ls}(hx:x.key=ls[i].key):kS (ls.set i x):=by
 unfold kS at*;rw[gN]at*;intro a b ha hb hab;rw[List.length_set]at ha hb;rw[List.getElem_set,List.getElem_set];have h1:=h a b ha hb hab;by_cases e1:i=a
 ·subst e1;rw[if_pos rfl,if_neg (by omega),hx];exact h1
 ·rw[if_neg e1];by_cases e2:i=b
  ·subst e2;rw[if_pos rfl,hx];exact h1
  ·rw[if_neg e2];exact h1
theorem Jz {ls:List Ls}(h:kS ls){x:Ls}(hn:∀y∈ls,y.key≠x.key):kS (ls.take (jJ ls x.key)++x::ls.drop (jJ ls x.key)):=by
 unfold kS;rw[List.pairwise_append];refine⟨h.sublist (List.take_sublist _ _),List.pairwise_cons.2 ⟨fun y hy=> ?_,h.sublist (List.drop_sublist _ _)⟩,fun a ha b hb=> ?_⟩
 ·have h1:=vO h y hy;have h2:=hn y (List.mem_of_mem_drop hy);omega
 ·have h1:=zD a ha;rw[List.mem_cons]at hb;rcases hb with rfl | hb
  ·exact h1
  ·have h2:=vO h b hb;omega
theorem Qc {ls:List Ls}(h:kS ls){x:Ls}(hx:x∈ls):ls[jJ ls x.key]? =some x:=by
 have hm:x∈ls.drop (jJ ls x.key):=by
  have:=hx;rw[<- List.take_append_drop (jJ ls x.key) ls,List.mem_append]at this;rcases this with h1 | h1
  ·have:=zD x h1;omega
  ·exact h1
 cases hd:ls.drop (jJ ls x.key)with
 | nil=>rw[hd]at hm;simp at hm
 | cons y r=>
  have hy:ls[jJ ls x.key]? =some y:=by
   have:=congrArg (·[0]?) hd;simpa[List.getElem?_drop]using this
  rw[hd,List.mem_cons]at hm;rcases hm with rfl | hm
  ·exact hy
  ·have h1:(ls.drop (jJ ls x.key)).Pairwise fun a b=>a.key<b.key:=h.sublist (List.drop_sublist _ _)
   rw[hd]at h1;have h2:=(List.pairwise_cons.1 h1).1 x hm;have h3:=vO h (k:=x.key) y (by rw[hd];simp);omega
theorem oL {ls:List Ls}(h:kS ls){k:Nat}(hm:∀y,ls[jJ ls k]? =some y->y.key≠k):∀y∈ls,y.key≠k:=by
 intro y hy e;subst e;exact hm y (Qc h hy) rfl
theorem key_inj {a b:Ls}(ha:a.z<2/\a.t<3)(hb:b.z<2/\b.t<3)(h:a.key=b.key):a.c=b.c/\a.z=b.z/\a.t=b.t:=by
 unfold Ls.key at h;omega
def Qd (N aC split:Nat)(l:Ls):Prop:=l.c<aC/\l.z<2/\l.t<3/\0<l.p.length/\l.p.length<=N/\∀p∈l.p,p<256/\(p<split↔l.z=0)
theorem lG {ls:List Ls}(h:kS ls)(l:Ls)(p:Nat):kS (bG ls l p):=by
 unfold bG;split
 ·rename_i x hx;obtain⟨hi,hxi⟩:=List.getElem?_eq_some_iff.1 hx;split
  ·exact Cb h hi (by rw[hxi];rfl)
  ·rename_i hne;exact Jz (x:={l with p:=[p]}) h (oL h fun y hy=>by
    change ls[jJ ls l.key]? =some y at hy;rw[hx]at hy;obtain rfl:=gP hy;exact hne)
 ·rename_i hx;exact Jz (x:={l with p:=[p]}) h (oL h fun y hy=>by
   change ls[jJ ls l.key]? =some y at hy;rw[hx]at hy;cases hy)
theorem GU {ls:List Ls}{N M aC split:Nat}(h:∀x∈ls,Qd N aC split x){l:Ls}{p:Nat}(hl:l.c<aC/\l.z<2/\l.t<3)(hp:p<256/\(p<split↔l.z=0))(hNM:N<=M)(hM:1<=M)(hx:∀x∈ls,x.key=l.key->x.p.length+1<=M):∀x∈bG ls l p,Qd M aC split x:=by
 have up:∀x∈ls,Qd M aC split x:=fun x hx=>by
  obtain⟨h1,h2,h3,h4,h5,h6⟩:=h x hx;exact⟨h1,h2,h3,h4,by omega,h6⟩
 have new:Qd M aC split {l with p:=[p]}:=⟨hl.1,hl.2.1,hl.2.2,by simp,by simpa using hM,fun q hq=>by
  obtain rfl:q=p:=by simpa using hq
  exact hp⟩
 intro y hy;unfold bG at hy;split at hy
 ·rename_i x hxe;obtain⟨hi,hxi⟩:=List.getElem?_eq_some_iff.1 hxe;have hxm:x∈ls:=by rw[<- hxi];exact gL hi
  split at hy
  ·rename_i hk;rcases List.mem_or_eq_of_mem_set hy with hy | rfl
   ·exact up y hy
   ·obtain⟨h1,h2,h3,h4,h5,h6⟩:=h x hxm;have hkk:=key_inj ⟨h2,h3⟩ ⟨hl.2.1,hl.2.2⟩ hk;refine⟨h1,h2,h3,by simp,by have:=hx x hxm hk;simpa using this,fun q hq=> ?_⟩;simp only[List.mem_append,List.mem_singleton]at hq;rcases hq with hq | rfl
    ·exact h6 q hq
    ·exact⟨hp.1,by rw[hkk.2.1];exact hp.2⟩
  ·rw[List.mem_append,List.mem_cons]at hy;rcases hy with hy | rfl | hy
   ·exact up y (List.mem_of_mem_take hy)
   ·exact new
   ·exact up y (List.mem_of_mem_drop hy)
 ·rw[List.mem_append,List.mem_cons]at hy;rcases hy with hy | rfl | hy
  ·exact up y (List.mem_of_mem_take hy)
  ·exact new
  ·exact up y (List.mem_of_mem_drop hy)
end
section
theorem dZ.push {h:Hp}(hk:dZ h){l:Ls}{p:Nat}(hl:l.c<h.aC/\l.z<2/\l.t<3)(hp:p<256/\(p<h.z0.e↔l.z=0))(h8:∀x∈h.ls,x.key=l.key->x.p.length+1<=8)(hd:∀q,cnt h.all q+hit ⟨p,0,0⟩ q<=1):
 dZ {h with ls:=bG h.ls l p}/\∀q,cnt ({h with ls:=bG h.ls l p}:Hp).all q=cnt h.all q+hit ⟨p,0,0⟩ q:=by
 have hc:∀q,cnt ({h with ls:=bG h.ls l p}:Hp).all q=cnt h.all q+hit ⟨p,0,0⟩ q:=fun q=>by
  rw[dI,dI];simp only;rw[cnt_push];omega
 exact⟨⟨hk.o0,hk.o1,hk.f0,hk.e0,hk.e1,hk.m0,hk.m1,hk.cp,lG hk.lk l p,GU (N:=8) (M:=8) hk.lr hl hp (Nat.le_refl _) (by omega) h8,hk.lv,hk.vs,fun q=>by rw[hc];exact hd q⟩,hc⟩
def xU (ls:List Ls)(k:Nat):Nat:=match ls.find? fun x=>decide (x.key=k)with
 | some x=>x.p.length
 | none=>0
theorem JA {ls:List Ls}(h:kS ls){x:Ls}(hx:x∈ls):xU ls x.key=x.p.length:=by
 unfold xU;have:ls.find? (fun y=>decide (y.key=x.key))=some x:=by
  induction ls with
  | nil=>simp at hx
  | cons y ls ih=>
   obtain⟨h1,h2⟩:=List.pairwise_cons.1 h;rw[List.mem_cons]at hx;rcases hx with rfl | hx
   ·rw[List.find?_cons_of_pos (by simp)]
   ·rw[List.find?_cons_of_neg (by have:=h1 x hx;simp;omega)];exact ih h2 hx
 rw[this]
theorem Ce {ls:List Ls}{l:Ls}{p:Nat}(h:kS ls):∀x∈bG ls l p,x.key=l.key->x.p.length=xU ls l.key+1:=by
 intro x hx hkey;have hr:=lG h l p;unfold bG at hx hr;split at hx
 ·rename_i y hy;obtain⟨hi,hyi⟩:=List.getElem?_eq_some_iff.1 hy;have hym:y∈ls:=by rw[<- hyi];exact gL hi
  by_cases hk:y.key=l.key
  ·rw[if_pos hk]at hx;have hl:=JA h hym;rw[hk]at hl;rcases List.mem_or_eq_of_mem_set hx with hm | rfl
   ·obtain⟨j,hj,rfl⟩:=List.getElem_of_mem hx;rw[List.length_set]at hj;rw[List.getElem_set]at hkey ⊢;by_cases he:jJ ls l.key=j
    ·rw[if_pos he]at hkey ⊢;simp[hl]
    ·rw[if_neg he]at hkey;exfalso;rcases Nat.lt_or_gt_of_ne he with hlt | hgt
     ·have:=List.pairwise_iff_getElem.1 h _ _ hi hj hlt;rw[hyi,hk,hkey]at this;omega
     ·have:=List.pairwise_iff_getElem.1 h _ _ hj hi hgt;rw[hyi,hk,hkey]at this;omega
   ·simp[hl]
  ·rw[if_neg hk]at hx;have hmiss:=oL h (k:=l.key) fun w hw=>by rw[hy]at hw;obtain rfl:=gP hw;exact hk
   have hz:xU ls l.key=0:=by
    unfold xU;rw[List.find?_eq_none.2 (fun w hw=>by simpa using hmiss w hw)]
   rw[List.mem_append,List.mem_cons]at hx;rcases hx with hm | rfl | hm
   ·exact absurd hkey (hmiss x (List.mem_of_mem_take hm))
   ·rw[hz];rfl
   ·exact absurd hkey (hmiss x (List.mem_of_mem_drop hm))
 ·rename_i hy;have hmiss:=oL h (k:=l.key) fun w hw=>by rw[hy]at hw;cases hw
  have hz:xU ls l.key=0:=by
   unfold xU;rw[List.find?_eq_none.2 (fun w hw=>by simpa using hmiss w hw)]
  rw[List.mem_append,List.mem_cons]at hx;rcases hx with hm | rfl | hm
  ·exact absurd hkey (hmiss x (List.mem_of_mem_take hm))
  ·rw[hz];rfl
  ·exact absurd hkey (hmiss x (List.mem_of_mem_drop hm))
theorem dZ.fill {l:Ls}{hd:Nat}:∀(n:Nat) {h:Hp},dZ h->(l.c<h.aC/\l.z<2/\l.t<3)->(∀x∈h.ls,x.key=l.key->x.p.length+n<=8)->n<=8->
 dZ (h.fill l hd n)/\(∀q,cnt (h.fill l hd n).all q=cnt h.all q)/\Same h (h.fill l hd n)/\(h.fill l hd n).live=h.live
 | 0,h,hk,_,_,_=>⟨hk,fun _=>rfl,Same.refl h,rfl⟩
 | n+1,h,hk,hl,h8,hn=>by
  unfold Hp.fill;cases ht:h.lF l.z 0 l.t hd with
  | none=>exact⟨hk,fun _=>rfl,Same.refl h,rfl⟩
  | some r=>
   obtain⟨h',a⟩:=r;obtain⟨hT,hls,hz⟩:=hk.lF (by omega) hl.2.2 hl.2.1 ht;have hl':l.c<h'.aC/\l.z<2/\l.t<3:=by rw[hT.same.aC];exact hl
   obtain⟨g1,g2⟩:=hT.ok.push (l:=l) (p:=a) hl' ⟨hT.fit.2.2.1,by rw[hT.same.split];exact hz⟩ (fun x hx hk=>by rw[hls]at hx;have:=h8 x hx hk;omega) (fun q=>by rw[hT.c 0 q];exact hk.one q);obtain⟨k1,k2,k3,k4⟩:=dZ.fill n (h:={h' with ls:=bG h'.ls l a}) g1 hl' (fun x hx hkey=>by
    have:=Ce hT.ok.lk x hx hkey;have h2:xU h'.ls l.key+(n+1)<=8:=by
     unfold xU;cases hf:h'.ls.find? fun x=>decide (x.key=l.key)with
     | none=>simp only;omega
     | some y=>
      have hy:=List.mem_of_find?_eq_some hf;have hyk:=List.find?_some hf;rw[hls]at hy;exact h8 y hy (of_decide_eq_true hyk)
    omega) (by omega)
   exact⟨k1,fun q=>by rw[k2,g2,hT.c 0 q],Same.trans (b:={h' with ls:=bG h'.ls l a}) (Same.trans hT.same ⟨rfl,rfl,rfl,rfl⟩) k3,k4.trans hT.live⟩
end
section
theorem qR {p:Nat}(h:p<256):cZ 0 256 p 0:=⟨by omega,by omega,h,by simp[Nat.mod_one]⟩
theorem aCt (a o t t' p:Nat):hit ⟨a,o,t⟩ p=hit ⟨a,o,t'⟩ p:=rfl
theorem Rn {ls:List Ls}{k n:Nat}(hm:∀y∈ls,y.key≠k):∀x∈ls,x.key=k->x.p.length+n<=8:=fun x hx hk=>absurd hk (hm x hx)
theorem dZ.filled {h h':Hp}(hk:dZ h){l:Ls}{hd a:Nat}(hl:l.c<h.aC/\l.z<2/\l.t<3)(hm:∀y∈h.ls,y.key≠l.key)(he:(h.lF l.z 0 l.t hd).map (fun r=>(r.1.fill l hd 3,r.2))=some (h',a)):Rl h 0 h' a:=by
 cases ht:h.lF l.z 0 l.t hd with
 | none=>rw[ht]at he;cases he
 | some r=>
  obtain⟨g,b⟩:=r;rw[ht]at he;simp only[Option.map_some,Option.some.injEq,Prod.mk.injEq]at he;obtain⟨rfl,rfl⟩:=he;obtain⟨hT,hls,hz⟩:=hk.lF (by omega) hl.2.2 hl.2.1 ht;obtain⟨k1,k2,k3,k4⟩:=dZ.fill (l:=l) (hd:=hd) 3 hT.ok (by rw[hT.same.aC];exact hl) (Rn (by rw[hls];exact hm)) (by omega);exact⟨k1,hT.fit,fun t p=>by rw[k2];exact hT.c t p,hT.same.trans k3,k4.trans hT.live⟩
theorem dZ.single {h h':Hp}(hk:dZ h){l:Ls}{hd a:Nat}(hl:l.c<h.aC/\l.z<2/\l.t<3)(he:h.single l hd=some (h',a)):Rl h 0 h' a:=by
 unfold Hp.single at he;cases hx:h.ls[jJ h.ls l.key]? with
 | none=>
  rw[hx]at he;exact hk.filled hl (oL hk.lk fun y hy=>by rw[hx]at hy;cases hy) he
 | some x=>
  rw[hx]at he;simp only at he;obtain⟨hi,hxi⟩:=List.getElem?_eq_some_iff.1 hx;by_cases hkey:x.key=l.key
  ·rw[if_pos hkey]at he;simp only[Option.some.injEq,Prod.mk.injEq]at he;obtain⟨rfl,rfl⟩:=he;have hxm:x∈h.ls:=by rw[<- hxi];exact gL hi
   obtain⟨q1,q2,q3,q4,q5,q6⟩:=hk.lr x hxm;have hne:x.p≠[]:=fun e=>by rw[e]at q4;simp at q4
   obtain⟨ys,y,hy⟩:∃ys y,x.p=ys++[y]:=⟨x.p.dropLast,x.p.getLast hne,(List.dropLast_concat_getLast hne).symm⟩
   have hlast:x.p.getLastD 0=y:=by rw[hy];simp
   have hdrop:x.p.dropLast=ys:=by rw[hy];simp
   have hlen:x.p.length=ys.length+1:=by rw[hy];simp
   have hym:y∈x.p:=by rw[hy];simp
   rw[hlast,hdrop,hlen];have hpg:∀q,cnt (kR x.p) q=cnt (kR ys) q+hit ⟨y,0,0⟩ q:=fun q=>by rw[hy,iU];rfl
   have hcl:∀q,cnt (lsB (if ys.length+1=1 then h.ls.eraseIdx (jJ h.ls l.key)else h.ls.set (jJ h.ls l.key) {x with p:=ys})) q+hit ⟨y,0,0⟩ q=cnt (lsB h.ls) q:=fun q=>by
    split
    ·rename_i h1;have:=wI hi q;rw[hxi,hpg]at this;have hz:ys=[]:=List.eq_nil_of_length_eq_zero (by omega);rw[hz]at this;simp only[kR,List.map_nil,cnt]at this;omega
    ·have:=uH hi {x with p:=ys} q;rw[hxi,hpg]at this;simp only at this;omega
   have hca:∀t q,cnt ({h with ls:=if ys.length+1=1 then h.ls.eraseIdx (jJ h.ls l.key)else h.ls.set (jJ h.ls l.key) {x with p:=ys}}:Hp).all q+hit ⟨y,0,t⟩ q=cnt h.all q:=fun t q=>by
    rw[aCt y 0 t 0,dI,dI];simp only;have:=hcl q;omega
   refine⟨⟨hk.o0,hk.o1,hk.f0,hk.e0,hk.e1,hk.m0,hk.m1,hk.cp,?_,?_,hk.lv,hk.vs,fun q=>by have:=hca 0 q;have:=hk.one q;omega⟩,qR (q6 y hym).1,hca,⟨rfl,rfl,rfl,rfl⟩,rfl⟩
   ·simp only;split
    ·exact hk.lk.sublist (List.eraseIdx_sublist _ _)
    ·exact Cb hk.lk hi (by rw[hxi];rfl)
   ·simp only;intro w hw;split at hw
    ·exact hk.lr w ((List.eraseIdx_sublist _ _).subset hw)
    ·rename_i h1;rcases List.mem_or_eq_of_mem_set hw with hw | rfl
     ·exact hk.lr w hw
     ·exact⟨q1,q2,q3,by simp only;omega,by simp only;omega,fun q hq=>q6 q (by rw[hy];simp[hq])⟩
  ·rw[if_neg hkey]at he;exact hk.filled hl (oL hk.lk fun y hy=>by rw[hx]at hy;obtain rfl:=gP hy;exact hkey) he
theorem dZ.ask {h h':Hp}(hk:dZ h){cpu i order t a:Nat}{urgent low:Bool}(hc:cpu<h.aC)(hi:i<2)(ho:order<=4)(ht:t<3)(he:h.ask cpu i order t urgent low=some (h',a)):Rl h order h' a:=by
 unfold Hp.ask at he;split at he
 ·rename_i h0;subst h0;exact hk.single ⟨hc,hi,ht⟩ he
 ·exact(hk.lF ho ht hi he).1
theorem dZ.attempt {h h':Hp}(hk:dZ h){cpu order t a:Nat}{urgent low:Bool}(hc:cpu<h.aC)(ho:order<=4)(ht:t<3)(he:h.attempt cpu order t urgent low=some (h',a)):Rl h order h' a:=by
 unfold Hp.attempt at he;split at he
 ·exact hk.ask hc (by omega) ho ht he
 ·cases h1:h.ask cpu 1 order t urgent low with
  | some r=>
   rw[h1]at he;obtain rfl:=gP he;exact hk.ask hc (by omega) ho ht h1
  | none=>
   rw[h1]at he;exact hk.ask hc (by omega) ho ht he
theorem UD (h:Hp)(m:List Ls)(a o:Nat):({h with ls:=m}:Hp).iT a o={h.iT a o with ls:=m}:=by
 unfold Hp.iT Hp.jD Hp.zone Hp.iR;simp only;split <;> split <;> rfl
theorem jV:∀(ps:List Nat) (h:Hp) (m:List Ls),aU {h with ls:=m} ps={aU h ps with ls:=m}
 | [],_,_=>rfl
 | p::ps,h,m=>by rw[aU,aU,UD,jV ps]
theorem zF:∀(ls:List Ls) (h:Hp) (m:List Ls),bW {h with ls:=m} ls={bW h ls with ls:=m}
 | [],_,_=>rfl
 | l::ls,h,m=>by rw[bW,bW,jV,zF ls]
theorem dZ.aU:∀(ps:List Nat) {h:Hp},dZ h->(∀p∈ps,p<256)->(∀q,cnt h.all q+cnt (kR ps) q<=1)->
 dZ (aU h ps)/\(∀q,cnt (aU h ps).all q=cnt h.all q+cnt (kR ps) q)/\Same h (aU h ps)/\(aU h ps).ls=h.ls/\(aU h ps).live=h.live
 | [],h,hk,_,_=>⟨hk,fun q=>by simp[Go.Proofs.YtcmpmobhongkiaaGreatDoor.aU,kR,cnt],Same.refl h,rfl,rfl⟩
 | p::ps,h,hk,hp,hd=>by
  have hcons:∀q,cnt (kR (p::ps)) q=hit ⟨p,0,0⟩ q+cnt (kR ps) q:=fun _=>rfl
  obtain⟨g1,g2,g3,g4,g5⟩:=hk.iT (qR (hp p (by simp))) (fun q=>by have:=hd q;rw[hcons]at this;omega);obtain⟨k1,k2,k3,k4,k5⟩:=dZ.aU ps g1 (fun q hq=>hp q (by simp[hq])) (fun q=>by rw[g2];have:=hd q;rw[hcons]at this;omega);exact⟨k1,fun q=>by have:=k2 q;rw[g2]at this;rw[hcons];show cnt (Go.Proofs.YtcmpmobhongkiaaGreatDoor.aU (h.iT p 0) ps).all q=_;omega,g3.trans k3,k4.trans g4,k5.trans g5⟩
theorem dZ.bW:∀(ls:List Ls) {h:Hp},dZ h->(∀l∈ls,∀p∈l.p,p<256)->(∀q,cnt h.all q+cnt (lsB ls) q<=1)->
 dZ (bW h ls)/\(∀q,cnt (bW h ls).all q=cnt h.all q+cnt (lsB ls) q)/\Same h (bW h ls)/\(bW h ls).ls=h.ls/\(bW h ls).live=h.live
 | [],h,hk,_,_=>⟨hk,fun q=>by simp[Go.Proofs.YtcmpmobhongkiaaGreatDoor.bW,lsB,cnt],Same.refl h,rfl,rfl⟩
 | l::ls,h,hk,hp,hd=>by
  obtain⟨g1,g2,g3,g4,g5⟩:=hk.aU l.p (hp l (by simp)) (fun q=>by have:=hd q;rw[iD]at this;omega);obtain⟨k1,k2,k3,k4,k5⟩:=dZ.bW ls g1 (fun m hm=>hp m (by simp[hm])) (fun q=>by rw[g2];have:=hd q;rw[iD]at this;omega);exact⟨k1,fun q=>by have:=k2 q;rw[g2]at this;rw[iD];show cnt (Go.Proofs.YtcmpmobhongkiaaGreatDoor.bW (Go.Proofs.YtcmpmobhongkiaaGreatDoor.aU h l.p) ls).all q=_;omega,g3.trans k3,k4.trans g4,k5.trans g5⟩
theorem dZ.GV {h:Hp}(hk:dZ h):dZ {h with ls:=[]}:=
 ⟨hk.o0,hk.o1,hk.f0,hk.e0,hk.e1,hk.m0,hk.m1,hk.cp,List.Pairwise.nil,fun l hl=>by simp at hl,hk.lv,hk.vs,fun q=>by
  have h1:=hk.one q;rw[dI]at h1 ⊢;simp only[lsB,cnt];omega⟩
theorem dZ.drain {h:Hp}(hk:dZ h):dZ h.drain/\(∀q,cnt h.drain.all q=cnt h.all q)/\Same h h.drain/\h.drain.ls=[]/\h.drain.live=h.live:=by
 have e:h.drain=Go.Proofs.YtcmpmobhongkiaaGreatDoor.bW {h with ls:=[]} h.ls:=(zF h.ls h []).symm;have hc:∀q,cnt ({h with ls:=[]}:Hp).all q+cnt (lsB h.ls) q=cnt h.all q:=fun q=>by
  rw[dI,dI];simp only[lsB,cnt];omega
 obtain⟨k1,k2,k3,k4,k5⟩:=hk.GV.bW h.ls (fun l hl p hp=>((hk.lr l hl).2.2.2.2.2 p hp).1) (fun q=>by rw[hc];exact hk.one q);rw[e];exact⟨k1,fun q=>by rw[k2,hc],Same.trans (b:={h with ls:=[]}) ⟨rfl,rfl,rfl,rfl⟩ k3,k4,k5⟩
end
section
theorem qU (l:List Bk)(b:Bk)(q:Nat):cnt (bF l b) q=cnt l q+hit b q:=by
 unfold bF
 conv=>rhs;rw[<- List.take_append_drop (lb l b.a) l]
 rw[bP,bP,cnt];omega
theorem zG {l:List Bk}{i:Nat}(hi:i<l.length)(q:Nat):cnt (l.eraseIdx i) q+hit l[i] q=cnt l q:=by
 have h1:l=l.take i++l[i]::l.drop (i+1):=by rw[<- List.drop_eq_getElem_cons hi,List.take_append_drop]
 conv=>rhs;rw[h1]
 rw[List.eraseIdx_eq_take_drop_succ,bP,bP,cnt];omega
theorem NT {l:List Bk}(h:rU l){b:Bk}(hn:∀x∈l,x.a≠b.a):rU (bF l b):=by
 unfold rU bF;rw[List.pairwise_append];refine⟨h.sublist (List.take_sublist _ _),List.pairwise_cons.2 ⟨fun y hy=> ?_,h.sublist (List.drop_sublist _ _)⟩,fun x hx y hy=> ?_⟩
 ·have h1:=uG h y hy;have h2:=hn y (List.mem_of_mem_drop hy);omega
 ·have h1:=xQ x hx;rw[List.mem_cons]at hy;rcases hy with rfl | hy
  ·exact h1
  ·have h2:=uG h y hy;omega
theorem Fg {l:List Bk}{b x:Bk}(h:x∈bF l b):x=b∨x∈l:=by
 unfold bF at h;rw[List.mem_append,List.mem_cons]at h;rcases h with h | rfl | h
 ·exact .inr (List.mem_of_mem_take h)
 ·exact .inl rfl
 ·exact .inr (List.mem_of_mem_drop h)
theorem UE (h:Hp)(p:Nat):cnt h.live p<=cnt h.all p:=by rw[dI];omega
theorem dZ.UF {g:Hp}(hk:dZ g){a o t:Nat}(hfit:cZ 0 256 a o)(ht:t<3)(hd:∀q,cnt g.all q+hit ⟨a,o,t⟩ q<=1):
 dZ {g with live:=bF g.live ⟨a,o,t⟩}/\∀q,cnt ({g with live:=bF g.live ⟨a,o,t⟩}:Hp).all q=cnt g.all q+hit ⟨a,o,t⟩ q:=by
 have hc:∀q,cnt ({g with live:=bF g.live ⟨a,o,t⟩}:Hp).all q=cnt g.all q+hit ⟨a,o,t⟩ q:=fun q=>by
  rw[dI,dI];simp only;rw[qU];omega
 refine⟨⟨hk.o0,hk.o1,hk.f0,hk.e0,hk.e1,hk.m0,hk.m1,hk.cp,hk.lk,hk.lr,fun b hb=> ?_,NT hk.vs fun x hx e=> ?_,fun q=>by rw[hc];exact hd q⟩,hc⟩
 ·rcases Fg hb with rfl | hb
  ·exact⟨hfit,ht⟩
  ·exact hk.lv b hb
 ·have h1:=hd a;have h2:=UE g a;have hpo:=dR o;have hpx:=dR x.o;have h3:0<cnt g.live a:=iL.2 ⟨x,hx,by unfold inB;simp only at e;omega⟩;have h4:hit ⟨a,o,t⟩ a=1:=jI.2 (by unfold inB;simp only;omega);omega
theorem dZ.alloc {h h':Hp}(hk:dZ h){cpu order t a:Nat}{urgent low:Bool}(hc:cpu<h.aC)(ho:order<=4)(ht:t<3)(he:h.alloc cpu order t urgent low=some (h',a)):
 dZ h'/\(∀q,cnt h'.all q=cnt h.all q)/\Same h h'/\h'.live=bF h.live ⟨a,order,t⟩/\cZ 0 256 a order:=by
 have key:∃g,Rl h order g a/\h'={g with live:=bF g.live ⟨a,order,t⟩}:=by
  unfold Hp.alloc at he;cases h1:h.attempt cpu order t urgent low with
  | some r=>
   rw[h1]at he;simp only[Option.some.injEq,Prod.mk.injEq]at he;obtain⟨rfl,rfl⟩:=he;exact⟨r.1,hk.attempt hc ho ht h1,rfl⟩
  | none=>
   rw[h1]at he;simp only at he;cases h2:h.drain.attempt cpu order t urgent low with
   | none=>rw[h2]at he;cases he
   | some r=>
    rw[h2]at he;simp only[Option.some.injEq,Prod.mk.injEq]at he;obtain⟨rfl,rfl⟩:=he;obtain⟨d1,d2,d3,d4,d5⟩:=hk.drain;have hT:=d1.attempt (by rw[d3.aC];exact hc) ho ht h2;exact⟨r.1,⟨hT.ok,hT.fit,fun t p=>by rw[hT.c,d2],d3.trans hT.same,hT.live.trans d5⟩,rfl⟩
 obtain⟨g,hT,rfl⟩:=key;obtain⟨k1,k2⟩:=hT.ok.UF hT.fit ht (fun q=>by rw[hT.c t q];exact hk.one q);exact⟨k1,fun q=>by rw[k2,hT.c t q],Same.trans hT.same ⟨rfl,rfl,rfl,rfl⟩,by simp only;rw[hT.live],hT.fit⟩
theorem NU {ls:List Ls}{l:Ls}{p:Nat}:∀x∈bG ls l p,x.key≠l.key->x∈ls:=by
 intro x hx hne;unfold bG at hx;split at hx
 ·rename_i y hy;split at hx
  ·rename_i hk;rcases List.mem_or_eq_of_mem_set hx with hx | rfl
   ·exact hx
   ·exact absurd hk hne
  ·rw[List.mem_append,List.mem_cons]at hx;rcases hx with hx | rfl | hx
   ·exact List.mem_of_mem_take hx
   ·exact absurd rfl hne
   ·exact List.mem_of_mem_drop hx
 ·rw[List.mem_append,List.mem_cons]at hx;rcases hx with hx | rfl | hx
  ·exact List.mem_of_mem_take hx
  ·exact absurd rfl hne
  ·exact List.mem_of_mem_drop hx
theorem UG (ls:List Ls)(l:Ls)(p:Nat):∃x∈bG ls l p,x.key=l.key:=by
 unfold bG;split
 ·rename_i y hy;obtain⟨hi,hyi⟩:=List.getElem?_eq_some_iff.1 hy;split
  ·rename_i hk;exact⟨{y with p:=y.p++[p]},List.mem_set hi _,hk⟩
  ·exact⟨{l with p:=[p]},by simp,rfl⟩
 ·exact⟨{l with p:=[p]},by simp,rfl⟩
theorem Qe {ls:List Ls}(h:kS ls)(l:Ls)(p:Nat):∃x,(bG ls l p)[jJ (bG ls l p) l.key]? =some x/\x.key=l.key/\x.p.length=xU ls l.key+1:=by
 obtain⟨x,hx,hk⟩:=UG ls l p;have h1:=Qc (lG h l p) hx;rw[hk]at h1;exact⟨x,h1,hk,Ce h x hx hk⟩
theorem Qg {ls:List Ls}{k N:Nat}(h:∀x∈ls,x.p.length<=N):xU ls k<=N:=by
 unfold xU;cases hf:ls.find? fun x=>decide (x.key=k)with
 | none=>exact Nat.zero_le _
 | some y=>exact h y (List.mem_of_find?_eq_some hf)
theorem dZ.give {h:Hp}(hk:dZ h){cpu p:Nat}(hc:cpu<h.aC)(hp:p<256)(hd:∀q,cnt h.all q+hit ⟨p,0,0⟩ q<=1):
 dZ (h.give cpu p)/\(∀q,cnt (h.give cpu p).all q=cnt h.all q+hit ⟨p,0,0⟩ q)/\Same h (h.give cpu p)/\(h.give cpu p).live=h.live:=by
 unfold Hp.give;obtain⟨t,ht⟩:∃t,(h.zone (h.iR p)).y.getD ((p-(h.zone (h.iR p)).f)/8) 0=t:=⟨_,rfl⟩
 have ht3:t<3:=by
  rw[<- ht];have hz:=(hk.zone (h.iR p)).1.typ;rw[List.getD_eq_getElem?_getD];cases hg:(h.zone (h.iR p)).y[(p-(h.zone (h.iR p)).f)/8]? with
  | none=>simp
  | some u=>exact hz u (gM hg)
 rw[ht];have hz2:h.iR p<2:=by unfold Hp.iR;split <;> omega
 have hz3:p<h.z0.e↔h.iR p=0:=by unfold Hp.iR;split <;> simp_all
 obtain⟨l,hl⟩:∃l:Ls,l=⟨cpu,h.iR p,t,[]⟩:=⟨_,rfl⟩
 have hlr:l.c<h.aC/\l.z<2/\l.t<3:=by rw[hl];exact⟨hc,hz2,ht3⟩
 have hlz:p<256/\(p<h.z0.e↔l.z=0):=by rw[hl];exact⟨hp,hz3⟩
 rw[<- hl];simp only;obtain⟨x,hx,hxk,hxl⟩:=Qe hk.lk l p;rw[hx];simp only;have hlen:=Qg (k:=l.key) (fun x hx=>(hk.lr x hx).2.2.2.2.1);by_cases h8:8<x.p.length
 ·rw[if_pos h8];obtain⟨hi,hxi⟩:=List.getElem?_eq_some_iff.1 hx;have hxm:x∈bG h.ls l p:=by rw[<- hxi];exact gL hi
  have h9:=GU (N:=8) (M:=9) hk.lr hlr hlz (by omega) (by omega) (fun y hy _=>by have:=(hk.lr y hy).2.2.2.2.1;omega);obtain⟨q1,q2,q3,q4,q5,q6⟩:=h9 x hxm;have hpg:∀q,cnt (kR x.p) q=cnt (kR (x.p.take 4)) q+cnt (kR (x.p.drop 4)) q:=fun q=>by rw[<- iU,List.take_append_drop]
  have hcl:∀q,cnt (lsB ((bG h.ls l p).set (jJ (bG h.ls l p) l.key) {x with p:=x.p.drop 4})) q+cnt (kR (x.p.take 4)) q=cnt (lsB h.ls) q+hit ⟨p,0,0⟩ q:=fun q=>by
   have h1:=uH hi {x with p:=x.p.drop 4} q;have h2:=cnt_push h.ls l p q;rw[hxi,hpg]at h1;simp only at h1;omega
  have hca:∀q,cnt ({h with ls:=(bG h.ls l p).set (jJ (bG h.ls l p) l.key) {x with p:=x.p.drop 4}}:Hp).all q+cnt (kR (x.p.take 4)) q=cnt h.all q+hit ⟨p,0,0⟩ q:=fun q=>by
   rw[dI,dI];simp only;have:=hcl q;omega
  have hk2:dZ {h with ls:=(bG h.ls l p).set (jJ (bG h.ls l p) l.key) {x with p:=x.p.drop 4}}:=by
   refine⟨hk.o0,hk.o1,hk.f0,hk.e0,hk.e1,hk.m0,hk.m1,hk.cp,Cb (lG hk.lk l p) hi (by rw[hxi];rfl),fun y hy=> ?_,hk.lv,hk.vs,fun q=>by have:=hca q;have:=hd q;omega⟩;simp only at hy ⊢;obtain⟨j,hj,rfl⟩:=List.getElem_of_mem hy;rw[List.length_set]at hj;rw[List.getElem_set];by_cases hij:jJ (bG h.ls l p) l.key=j
   ·rw[if_pos hij];exact⟨q1,q2,q3,by simp only[List.length_drop];omega,by simp only[List.length_drop];omega,fun q hq=>q6 q (List.mem_of_mem_drop hq)⟩
   ·rw[if_neg hij];refine hk.lr _ (NU _ (gL hj) fun e=> ?_);rcases Nat.lt_or_gt_of_ne hij with hlt | hgt
    ·have:=List.pairwise_iff_getElem.1 (lG hk.lk l p) _ _ hi hj hlt;rw[hxi,hxk,e]at this;omega
    ·have:=List.pairwise_iff_getElem.1 (lG hk.lk l p) _ _ hj hi hgt;rw[hxi,hxk,e]at this;omega
  obtain⟨k1,k2,k3,k4,k5⟩:=hk2.aU (x.p.take 4) (fun q hq=>(q6 q (List.mem_of_mem_take hq)).1) (fun q=>by rw[hca];exact hd q);have e:Go.Proofs.YtcmpmobhongkiaaGreatDoor.aU {h with ls:=(bG h.ls l p).set (jJ (bG h.ls l p) l.key) {x with p:=x.p.drop 4}} (x.p.take 4)={Go.Proofs.YtcmpmobhongkiaaGreatDoor.aU {h with ls:=bG h.ls l p} (x.p.take 4)with ls:=(bG h.ls l p).set (jJ (bG h.ls l p) l.key) {x with p:=x.p.drop 4}}:=jV (x.p.take 4) {h with ls:=bG h.ls l p} _;rw[<- e];exact⟨k1,fun q=>by rw[k2,hca],Same.trans (b:={h with ls:=(bG h.ls l p).set (jJ (bG h.ls l p) l.key) {x with p:=x.p.drop 4}}) ⟨rfl,rfl,rfl,rfl⟩ k3,k5⟩
 ·rw[if_neg h8];obtain⟨g1,g2⟩:=hk.push hlr hlz (fun y hy hyk=>by
   have h1:=JA hk.lk hy;rw[hyk]at h1;omega) hd
  exact⟨g1,g2,⟨rfl,rfl,rfl,rfl⟩,rfl⟩
theorem dZ.fZ {h:Hp}(hk:dZ h){cpu i:Nat}(hc:cpu<h.aC)(hi:i<h.live.length):
 dZ (h.fZ cpu i h.live[i])/\(∀q,cnt (h.fZ cpu i h.live[i]).all q=cnt h.all q)/\Same h (h.fZ cpu i h.live[i])/\(h.fZ cpu i h.live[i]).live=h.live.eraseIdx i:=by
 have hb:=hk.lv _ (gL hi);have hce:∀q,cnt ({h with live:=h.live.eraseIdx i}:Hp).all q+hit ⟨h.live[i].a,h.live[i].o,0⟩ q=cnt h.all q:=fun q=>by
  have h1:=zG hi q;have h2:hit ⟨h.live[i].a,h.live[i].o,0⟩ q=hit h.live[i] q:=rfl;rw[dI,dI,h2];simp only;omega
 have hk1:dZ {h with live:=h.live.eraseIdx i}:=⟨hk.o0,hk.o1,hk.f0,hk.e0,hk.e1,hk.m0,hk.m1,hk.cp,hk.lk,hk.lr,fun b hb=>hk.lv b ((List.eraseIdx_sublist _ _).subset hb),hk.vs.sublist (List.eraseIdx_sublist _ _),fun q=>by have:=hce q;have:=hk.one q;omega⟩
 unfold Hp.fZ;simp only;split
 ·obtain⟨g1,g2,g3,g4,g5⟩:=hk1.iT hb.1 (fun q=>by rw[hce];exact hk.one q);exact⟨g1,fun q=>by rw[g2,hce],Same.trans (b:={h with live:=h.live.eraseIdx i}) ⟨rfl,rfl,rfl,rfl⟩ g3,g5⟩
 ·rename_i h0;have ho:h.live[i].o=0:=by omega
  rw[ho]at hce;obtain⟨g1,g2,g3,g4⟩:=hk1.give (cpu:=cpu) hc hb.1.2.2.1 (fun q=>by rw[hce];exact hk.one q);exact⟨g1,fun q=>by rw[g2,hce],Same.trans (b:={h with live:=h.live.eraseIdx i}) ⟨rfl,rfl,rfl,rfl⟩ g3,g4⟩
end
section
open Go.RowKit
def xA:List Bk->Nat
 | []=>0
 | b::l=>2^b.o+xA l
theorem SN (l:List Bk)(i:Nat)(hi:i<l.length):xA (l.take (i+1))=xA (l.take i)+2^l[i].o:=by
 induction l generalizing i with
 | nil=>simp at hi
 | cons b l ih=>
  cases i with
  | zero=>simp[xA]
  | succ i=>
   have hi':i<l.length:=by simpa using hi
   rw[List.take_succ_cons,List.take_succ_cons,xA,xA,ih i hi'];simp only[List.getElem_cons_succ];omega
theorem Yp (l:List Bk)(h:∀b∈l,b.o<=4):xA l<=l.length*16:=by
 induction l with
 | nil=>simp[xA]
 | cons b l ih=>
  have h1:=ih (fun b hb=>h b (by simp[hb]));have h2:=wR (h b (by simp));simp only[xA,List.length_cons];omega
set_option maxHeartbeats 4000000 in
set_option maxRecDepth 100000 in
theorem VD (a1 a2:Option Addr)(n1 n2 c1 c2:Nat)(z:Zn)(w:World)(hat:Hf w a1 a2 n1 n2 z)(hz:z.ok):
 Calls Tryz.prog 176 #[.agg #[.int .i64 z.f,.int .i64 z.e,.slice a1 n1 c1,.slice a2 n2 c2]] w fun ev w'=>ev= .returned (.tuple #[.int .i64 (xA z.l:Nat),.int .i64 0])/\Below w.heap.size w w':=by
 have hlen:z.l.length<=256:=gQ (rQ.length_le hz.2 (fun b hb=>(hz.2.fit b hb).1.2.2.1)) hz.1.e2;obtain⟨K1,F1,hsz,hbw⟩:=boxes1 w #[.int .i64 (z.f:Int),.int .i64 (z.e:Int),.slice a1 n1 c1,.slice a2 n2 c2] 102;have nU:=hat.below hbw;have l1:=hat.l1;clear hat
 go_enter Tryz.func176,Tryz.ntmps176
 go_wp2_with fail
 generalize w.alloc _=w0 at*;refine(oP _ _ _ _ _ _ z _ nU hz).mono ?_;rintro ev w1 ⟨rfl,hb1⟩;have yZ:=aB K1 hsz hb1;have Ew:=nU.below hb1;have wV:=Below.step hbw hb1;have hs1:=gI hsz hb1.size;clear K1 F1 nU hbw hb1
 dsimp only
 go_wp2
 go_loopw [5,16] (fun s5 s16 wr=>∃i:Nat,i<=n1/\s16= .int .i64 (i:Int)/\s5= .int .i64 (xA (z.l.take i):Nat)/\Hid (Below w1.heap.size w1 wr)) (fun _ s16 _=>n1-(intOf s16).toNat)
 case atStart=>exact⟨0,Nat.zero_le _,rfl,rfl,Below.refl _ _⟩
 case round=>
  obtain⟨i,hi,rfl,rfl,hb⟩:=hrel;by_cases hlt:i<n1
  ·have hlt2:i<z.l.length:=by omega
   obtain⟨bb,off,ha1,hbb,hc⟩:=aN aJ (by decide) (Ew.r1.below hb.out) hlt2;obtain rfl:=ha1;obtain⟨hc0,hc1,hc2⟩:=bD hc;have hfit:=(hz.2.fit _ (gL hlt2)).1;have hsum:=gO (SN z.l i hlt2);have hle:=Yp (z.l.take i) (fun b hb=>(hz.2.fit b (List.mem_of_mem_take hb)).1.1);rw[List.length_take]at hle;have hle2:xA (z.l.take i)<=5000:=by omega
   clear hc hle;generalize z.l[i]=x at*;have hsh:=uJ hfit.1;have hpw:=wR hfit.1;have hNew:=gO (Below.step hb.out (aF wr (.cells #[.int .i64 (x.a:Int),.int .i64 (x.o:Int),.int .i64 (x.t:Int)] 63)));obtain⟨S,hS⟩:∃S,xA (z.l.take i)=S:=⟨_,rfl⟩
   rw[hS]at hle2 hsum ⊢;clear hS;have EC:(i:Int)<n1:=by omega
   have hw:wrap64 ((S:Int)+wrap64 (2^min x.o 64))=((S+2^x.o:Nat):Int):=by
    rw[show min x.o 64=x.o by have:=hfit.1;omega,hsh];generalize 2^x.o=q at*;have:=IntWalk.wrap64_in ((S:Int)+q) (by omega);rw[Int.natCast_add];exact this
   go_wp2
   go_roundw
   case rel=>exact⟨i+1,by omega,by go_num,by rw[hsum.out];simp only[Value.int.injEq,true_and];exact hw,hNew⟩
   case measure=>simp[intOf];omega
  ·obtain rfl:i=n1:=by omega
   have he:z.l.take i=z.l:=by rw[<- l1,List.take_length]
   rw[he];go_wp2
   go_ret2
   exact⟨rfl,Below.step wV hb.out⟩
end
section
open Go.RowKit
def vB (b:Bool):Value:= .bool b
def bl (f:Nat->Bool):List Bool:=(List.range 256).map f
theorem kK (f:Nat->Bool):(bl f).length=256:=by simp[bl]
theorem vF {f g:Nat->Bool}(h:∀p,p<256->f p=g p):bl f=bl g:=List.map_congr_left fun p hp=>h p (List.mem_range.1 hp)
theorem Pv (f:Nat->Bool)(i:Nat)(h:i<256):(bl f)[i]? =some (f i):=by simp[bl,h]
theorem WX (f:Nat->Bool)(i:Nat)(v:Bool):(bl f).set i v=bl (fun p=>if p=i then v else f p):=by
 apply List.ext_getElem?;intro j;rw[List.getElem?_set];by_cases hj:j<256
 ·rw[Pv _ j hj,Pv _ j hj,kK];by_cases e:i=j
  ·subst e;simp[hj]
  ·rw[if_neg e,if_neg (fun h=>e h.symm)]
 ·have h1:(bl f)[j]? =none:=List.getElem?_eq_none (by rw[kK];omega);have h2:(bl (fun p=>if p=i then v else f p))[j]? =none:=List.getElem?_eq_none (by rw[kK];omega);rw[h1,h2,kK];split
  ·rw[if_neg (by omega)]
  ·rfl
def pV (r:Rg)(p:Nat):Bool:=decide (r.f<=(p:Int)/\(p:Int)<r.f+r.s)
def dA (l:List Rg)(p:Nat):Bool:=l.any fun r=>pV r p
theorem Mc {r:Rg}(h:xH r=true):r.small:=by
 have:=kV h;unfold Rg.small;omega
theorem DR:∀(l:List Rg) (p:Option Rg),dD p l=true->∀r∈l,xH r=true
 | [],_,_,r,hr=>by simp at hr
 | x::l,p,h,r,hr=>by
  simp only[dD,Bool.and_eq_true]at h;rcases List.mem_cons.1 hr with rfl | hr
  ·exact h.1.1
  ·exact DR l (some x) h.2 r hr
theorem mZ {l:List Rg}(h:dF l=true):∀r∈l,xH r=true:=by
 simp only[dF,Bool.and_eq_true]at h;exact DR l none h.2
theorem sQ {l:List Rg}(h:dF l=true):∀r∈l,r.small:=fun r hr=>Mc (mZ h r hr)
theorem xI {l:List Rg}(h:dF l=true):l.length<=40:=by
 simp only[dF,Bool.and_eq_true,decide_eq_true_eq]at h;exact h.1
theorem TG:(Tryz.prog.info? 4).map (fun i=>(i.zero,i.size,i.bytes))=some (some (.bool false),1,1):=by kernel_rfl
theorem YS:(List.replicate 256 (Value.bool false))=(bl fun _=>false).map vB:=by
 rw[show(bl fun _=>false)=List.replicate 256 false from by decide+kernel,List.map_replicate];rfl
theorem DT (l:List Rg)(k:Nat)(hk:k<l.length)(p:Nat):dA (l.take (k+1)) p=(dA (l.take k) p||pV l[k] p):=by
 unfold dA;rw[List.take_succ_eq_append_getElem hk,List.any_append];simp
set_option maxRecDepth 100000 in
theorem Gl (a:Option Addr)(n cap:Nat)(l:List Rg)(w:World)(hn:l.length=n)(hr:Row w a (flat gZ l))(hok:∀r∈l,xH r=true)(hl:n<=9223372036854775807):
 Calls Tryz.prog 101 #[.slice a n cap] w fun e w'=>∃a' c',e= .returned (.slice a' 256 c')/\w'.ownsRow w.heap.size 4 1 (.slice a' 256 c') 256 ((bl (dA l)).map vB)/\Below w.heap.size w w':=by
 subst hn;obtain⟨i0,hi,hz,hsize,hby⟩:=info_parts TG;go_enter Tryz.func101,Tryz.ntmps101
 go_wp2_with (at_make;refine wpList_make_full _ rfl _ _ 82 rfl w.heap.size 4 i0 (.bool false) 1 Tryz.underlying82 hi hz hsize .i64 .i64 _ _ 256 rfl rfl rfl rfl ?q1 ?q2 ?q3 ?_)
 case q1=>rw[hby];omega
 case q2=>unfold maxLen;omega
 case q3=>exact Nat.le_refl _
 intro w1 hown hgrow;rw[toList_madeCells_one,YS]at hown;have HO:=gO hown;have hbw:=(Below.refl w.heap.size w).grown hgrow (Nat.le_refl _) (by simp);clear hown hgrow;go_wp2
 go_loopw [5,6,10] (fun _ _ s10 wr=>∃k:Nat,k<=l.length/\s10= .int .i64 k/\Hid (wr.ownsRow w.heap.size 4 1 (.slice (some ⟨w.heap.size,0,none⟩) 256 256) 256 ((bl (dA (l.take k))).map vB))/\Below w.heap.size w wr) (fun _ _ s10 _=>l.length-(intOf s10).toNat)
 case atStart=>exact⟨0,Nat.zero_le _,rfl,HO,hbw⟩
 case round=>
  obtain⟨k,hk,rfl,hown,hbw⟩:=hrel;by_cases hlt:k<l.length
  ·obtain⟨b,off,rfl,hb,hc⟩:=aN jO (by decide) (hr.below hbw) hlt;have hc0:=hc 0 (vI l[k].f) rfl;have hc1:=hc 1 (vI l[k].s) rfl;simp only[vI,Nat.add_zero]at hc0 hc1;have hck:=hok l[k] (gL hlt);obtain⟨g1,g2,g3,g4⟩:=kV hck;have hsm:=Mc hck;have hsucc:=DT l k hlt;generalize hrr:l[k]=r at*;clear hrr hok;obtain⟨f,s⟩:=r;simp only at g1 g2 g3 g4 hc0 hc1;obtain⟨f,rfl⟩:=Int.eq_ofNat_of_zero_le g1;obtain⟨s,rfl⟩:=Int.eq_ofNat_of_zero_le (show(0:Int)<=s by omega);have aD9:=gO hsucc;clear hsucc;go_wp2
   have hb2:Below w.heap.size w (wr.alloc (.cells #[.int .i64 (f:Int),.int .i64 (s:Int)] 55)):=hbw.alloc hbw.size _;have B2:=aW wr #[.int .i64 (f:Int),.int .i64 (s:Int)] 55;have hs2:wr.heap.size<(wr.alloc (.cells #[.int .i64 (f:Int),.int .i64 (s:Int)] 55)).heap.size:=by simp
   have HO2:=gO (own_below hown.out (aF wr (.cells #[.int .i64 (f:Int),.int .i64 (s:Int)] 55)) (Nat.le_refl _));have hne:w.heap.size<wr.heap.size:=by
    obtain⟨g,v,e,_,h,_⟩:=fA hown.out 0 (by simp[kK]);obtain rfl:w.heap.size=g:=by simpa using e
    exact h
   generalize wr.alloc _=w2 at*;generalize wr.heap.size=bb at*;go_loopw [6] (fun s6 wq=>∃i:Nat,f<=i/\i<=f+s/\s6= .int .i64 i/\Hid (wq.ownsRow w.heap.size 4 1 (.slice (some ⟨w.heap.size,0,none⟩) 256 256) 256 ((bl (fun p=>dA (l.take k) p||(decide (f<=p)&&decide (p<i)))).map vB))/\Below w.heap.size w wq/\Hid (∀o,wq.cell? ⟨bb,o,none⟩=(#[.int .i64 (f:Int),.int .i64 (s:Int)]:Array Value)[o]?)/\bb<wq.heap.size) (fun s6 _=>256-(intOf s6).toNat)
   case atStart=>
    refine⟨f,Nat.le_refl _,by omega,rfl,?_,hb2,B2,hs2⟩;rw[show bl (fun p=>dA (l.take k) p||(decide (f<=p)&&decide (p<f)))=bl (dA (l.take k))from vF fun p _=>by
     have:(decide (f<=p)&&decide (p<f))=false:=by
      by_cases h:f<=p
      ·rw[decide_eq_false (show ¬p<f by omega),Bool.and_false]
      ·rw[decide_eq_false h,Bool.false_and]
     rw[this,Bool.or_false]]
    exact HO2
   case round=>
    obtain⟨i,hi1,hi2,rfl,hown3,hb3,HB3,hs3⟩:=hrel;have B3:=HB3.out;clear B2 HO2 HO hs2 hb2;by_cases EC:i<f+s
    ·go_wp2_with fail
     refine(pU ⟨(f:Int),(s:Int)⟩ _ hsm).mono ?_;rintro e w4 ⟨rfl,hb4⟩;have B4:=aB B3 hs3 hb4;have hown4:=own_below hown3.out hb4 (Nat.le_refl _);have hb5:=Below.step hb3 hb4;have hs4:bb<w4.heap.size:=gI hs3 hb4.size;obtain⟨g,v,e,hg,hgs,hcg,hfg⟩:=fA hown4 i (by rw[List.length_map,kK];omega);obtain rfl:w.heap.size=g:=by simpa using e
     have HO4:=gO hown4;clear B3 hown4 hown3 e;go_wp2
     go_roundw
     case rel=>
      refine⟨i+1,by omega,by omega,by go_num,?_,hb5.setCell (Nat.le_refl _) _,?_,by simpa using hs4⟩
      ·have h:=(World.ownsRow.stored HO4.out i (vB true)).1;rw[<- List.map_set,WX]at h;rw[show bl (fun p=>dA (l.take k) p||(decide (f<=p)&&decide (p<i+1)))=bl (fun p=>if p=i then true else dA (l.take k) p||(decide (f<=p)&&decide (p<i)))from vF fun p _=>by
        by_cases e:p=i
        ·subst e;rw[if_pos rfl,decide_eq_true hi1,decide_eq_true (Nat.lt_succ_self p)];simp
        ·rw[if_neg e,decide_eq_decide.2 (show p<i+1↔p<i by omega)]]
       exact h
      ·intro o;simp[go_sem,B4]
     case measure=>simp[intOf];omega
    ·obtain rfl:i=f+s:=by omega
     go_wp2_with fail
     refine(pU ⟨(f:Int),(s:Int)⟩ _ hsm).mono ?_;rintro e w4 ⟨rfl,hb4⟩;have hb5:=Below.step hb3 hb4;have hown4:=gO (own_below hown3.out hb4 (Nat.le_refl _));clear B3 hown3;go_wp2
     go_roundw
     case rel=>
      refine⟨k+1,by omega,by go_num,?_,hb5⟩;rw[show bl (dA (l.take (k+1)))=bl (fun p=>dA (l.take k) p||(decide (f<=p)&&decide (p<f+s)))from vF fun p _=>by
       rw[aD9.out p];congr 1;unfold pV;rw[<- Bool.decide_and];exact decide_eq_decide.2 (by simp only;omega)]
      exact hown4.out
     case measure=>simp[intOf];omega
  ·obtain rfl:k=l.length:=by omega
   rw[List.take_of_length_le (Nat.le_refl _)]at hown;go_wp2
   go_ret
   exact⟨_,_,rfl,hown.out,hbw⟩
end
section
def kW (l:List Rg)(i:Nat):List Rg:=
 match l.getLast? with
 | some r=>if r.f+r.s=i then l.dropLast++[⟨r.f,r.s+1⟩]else l++[⟨i,1⟩]
 | none=>[⟨i,1⟩]
def gU (f:Nat->Bool):Nat->List Rg
 | 0=>[]
 | i+1=>if f i then kW (gU f i) i else gU f i
def dK (f:Nat->Bool):List Rg:=gU f 256
structure IJ (f:Nat->Bool)(i:Nat)(l:List Rg):Prop where
 chain:∀k (h:k+1<l.length),(l[k]'(by omega)).f+(l[k]'(by omega)).s<l[k+1].f
 low:∀r∈l,0<=r.f/\1<=r.s/\r.f+r.s<=i
 mem:∀p,dA l p=(decide (p<i)&&f p)
theorem vG (l m:List Rg)(p:Nat):dA (l++m) p=(dA l p||dA m p):=by simp[dA]
theorem yS (r:Rg)(p:Nat):dA [r] p=pV r p:=by simp[dA]
theorem Md {f:Nat->Bool}{i:Nat}{l:List Rg}(h:IJ f i l)(hf:f i=true):IJ f (i+1) (kW l i):=by
 unfold kW;rcases List.eq_nil_or_concat l with rfl | ⟨L,r,rfl⟩
 ·refine⟨fun k hk=>by simp at hk,fun r hr=> ?_,fun p=> ?_⟩
  ·simp only[List.getLast?_nil,List.mem_singleton]at hr;subst hr;simp only;omega
  ·have hm:=h.mem p;simp only[dA,List.any_nil]at hm;show dA [⟨i,1⟩] p=_;rw[yS];unfold pV;by_cases e:p=i
   ·subst e;simp[hf];omega
   ·rw[decide_eq_false (by simp only;omega)];by_cases h1:p<i
    ·rw[decide_eq_true h1,Bool.true_and]at hm;rw[<- hm];simp
    ·rw[decide_eq_false (by omega)];simp
 ·simp only[List.concat_eq_append,List.getLast?_concat,List.dropLast_concat];rw[List.concat_eq_append]at h;have hrl:=h.low r (by simp);by_cases e:r.f+r.s=i
  ·rw[if_pos e];refine⟨fun k hk=> ?_,fun x hx=> ?_,fun p=> ?_⟩
   ·have hc:=h.chain k (by simpa using hk);simp only[List.length_append,List.length_cons,List.length_nil]at hk;by_cases hkl:k+1<L.length
    ·rw[List.getElem_append_left (by omega),List.getElem_append_left hkl]at hc ⊢;exact hc
    ·have e1:∀(x:Rg) (h:k+1<(L++[x]).length),(L++[x])[k+1]=x:=fun x h=>by rw[List.getElem_append_right (by omega)];simp
     rw[List.getElem_append_left (by omega),e1]at hc ⊢;exact hc
   ·rw[List.mem_append,List.mem_singleton]at hx;rcases hx with hx | rfl
    ·have:=h.low x (by simp[hx]);omega
    ·simp only;omega
   ·have hm:=h.mem p;rw[vG,yS]at hm ⊢;by_cases ep:p=i
    ·subst ep;rw[show pV ⟨r.f,r.s+1⟩ p=true from decide_eq_true (by simp only;omega),hf];simp
    ·rw[show pV ⟨r.f,r.s+1⟩ p=pV r p from decide_eq_decide.2 (by simp only;omega),hm,decide_eq_decide.2 (show p<i↔p<i+1 by omega)]
  ·rw[if_neg e];refine⟨fun k hk=> ?_,fun x hx=> ?_,fun p=> ?_⟩
   ·simp only[List.length_append,List.length_cons,List.length_nil]at hk;by_cases hkl:k+1<(L++[r]).length
    ·rw[List.getElem_append_left (by omega),List.getElem_append_left hkl];exact h.chain k hkl
    ·have hkk:k=L.length:=by simp only[List.length_append,List.length_cons,List.length_nil]at hkl;omega
     subst hkk;rw[List.getElem_append_left (by simp),List.getElem_append_right (by simp)];simp;omega
   ·rw[List.mem_append,List.mem_singleton]at hx;rcases hx with hx | rfl
    ·have:=h.low x hx;omega
    ·simp only;omega
   ·have hm:=h.mem p;rw[vG,hm,yS];unfold pV;by_cases ep:p=i
    ·subst ep;simp[hf];omega
    ·rw[decide_eq_false (show ¬((i:Int)<=(p:Int)/\(p:Int)<(i:Int)+1)by omega),Bool.or_false,decide_eq_decide.2 (show p<i↔p<i+1 by omega)]
theorem nC (f:Nat->Bool):∀i,IJ f i (gU f i)
 | 0=>⟨fun k hk=>by simp[gU]at hk,fun r hr=>by simp[gU]at hr,fun p=>by simp[gU,dA]⟩
 | i+1=>by
  unfold gU;have ih:=nC f i;cases hf:f i with
  | true=>rw[if_pos rfl];exact Md ih hf
  | false=>
   rw[if_neg (by simp)];refine⟨ih.chain,fun r hr=>by have:=ih.low r hr;omega,fun p=> ?_⟩;rw[ih.mem];by_cases e:p=i
   ·subst e;simp[hf]
   ·rw[decide_eq_decide.2 (show p<i↔p<i+1 by omega)]
theorem sZ:∀(l:List Rg) (p:Option Rg),(∀r∈l,xH r=true)->(∀k (h:k+1<l.length),(l[k]'(by omega)).f+(l[k]'(by omega)).s<l[k+1].f)->(∀r q,l.head?=some r->p=some q->q.f+q.s<r.f)->dD p l=true
 | [],_,_,_,_=>rfl
 | r::l,p,h1,h2,h3=>by
  unfold dD;rw[h1 r (by simp),Bool.true_and];rw[sZ l (some r) (fun x hx=>h1 x (by simp[hx])) (fun k hk=>h2 (k+1) (by simpa using hk)) (fun x q hx hq=>by
   obtain rfl:r=q:=by simpa using hq
   cases l with
   | nil=>simp at hx
   | cons y l=>
    obtain rfl:y=x:=by simpa using hx
    exact h2 0 (by simp)),Bool.and_true]
  cases p with
  | none=>rfl
  | some q=>exact decide_eq_true (h3 r q rfl rfl)
theorem IK (f:Nat->Bool):∀r∈dK f,xH r=true:=fun r hr=>by
 have:=(nC f 256).low r hr;exact decide_eq_true (by omega)
theorem vH (f:Nat->Bool):dD none (dK f)=true:=
 sZ _ none (IK f) (nC f 256).chain (fun _ _ _ h=>by cases h)
theorem IL (f:Nat->Bool)(h:(dK f).length<=40):dF (dK f)=true:=by
 unfold dF;rw[decide_eq_true h,vH,Bool.true_and]
theorem EN (f:Nat->Bool)(p:Nat)(hp:p<256):dA (dK f) p=f p:=by
 rw[dK,(nC f 256).mem p,decide_eq_true hp,Bool.true_and]
theorem EO (f:Nat->Bool)(p:Nat)(hp:256<=p):dA (dK f) p=false:=by
 rw[dK,(nC f 256).mem p,decide_eq_false (by omega),Bool.false_and]
theorem Bg {f g:Nat->Bool}:∀i,(∀p,p<i->f p=g p)->gU f i=gU g i
 | 0,_=>rfl
 | i+1,h=>by
  unfold gU;rw[h i (by omega),Bg i fun p hp=>h p (by omega)]
theorem tH {f g:Nat->Bool}(h:∀p,p<256->f p=g p):dK f=dK g:=Bg 256 h
def vJ (f:Nat->Bool)(p:Nat):Bool:=f p&& !(decide (0<p)&&f (p-1))
def starts (f:Nat->Bool):Nat->Nat
 | 0=>0
 | i+1=>starts f i+if vJ f i then 1 else 0
theorem IQ (l:List Rg)(i:Nat):∃r,(kW l i).getLast?=some r/\r.f+r.s=(i:Int)+1:=by
 unfold kW;split
 ·split
  ·rename_i r hr e;exact⟨_,List.getLast?_concat ..,by simp only;omega⟩
  ·exact⟨_,List.getLast?_concat ..,rfl⟩
 ·exact⟨_,rfl,rfl⟩
theorem WY (f:Nat->Bool)(i:Nat):(∃r,(gU f i).getLast?=some r/\r.f+r.s=(i:Int))↔(0<i/\f (i-1)=true):=by
 rcases i with _ | i
 ·simp[gU]
 ·rw[Nat.add_sub_cancel];unfold gU;cases hf:f i with
  | true=>
   rw[if_pos rfl];obtain⟨r,h1,h2⟩:=IQ (gU f i) i;exact⟨fun _=>⟨by omega,rfl⟩,fun _=>⟨r,h1,by omega⟩⟩
  | false=>
   rw[if_neg (by simp)];constructor
   ·rintro⟨r,h1,h2⟩;have:=(nC f i).low r (List.mem_of_getLast? h1);omega
   ·rintro⟨_,h⟩;cases h
theorem sS (f:Nat->Bool):∀i,(gU f i).length=starts f i
 | 0=>rfl
 | i+1=>by
  have ih:=sS f i;have hl:=WY f i;unfold gU starts vJ;cases hf:f i with
  | false=>rw[if_neg (by simp),ih,Bool.false_and];rfl
  | true=>
   rw[if_pos rfl,Bool.true_and];unfold kW;split
   ·rename_i r hr;by_cases e:r.f+r.s=(i:Int)
    ·rw[if_pos e];obtain⟨h0,h1⟩:=hl.1 ⟨r,hr,e⟩;rw[h1,decide_eq_true h0];have hne:gU f i≠[]:=by intro h;rw[h]at hr;cases hr
     have:=List.length_pos_iff.2 hne;simp[List.length_dropLast];omega
    ·rw[if_neg e];have hn:¬(0<i/\f (i-1)=true):=fun h=>by
      obtain⟨r',h1,h2⟩:=hl.2 h;rw[hr]at h1;obtain rfl:r=r':=by simpa using h1
      exact e h2
     have hb:(decide (0<i)&&f (i-1))=false:=by
      by_cases h0:0<i
      ·rw[decide_eq_true h0,Bool.true_and];cases h:f (i-1)with
       | false=>rfl
       | true=>exact absurd ⟨h0,h⟩ hn
      ·rw[decide_eq_false h0,Bool.false_and]
     rw[hb,List.length_append,ih];rfl
   ·rename_i hr;rw[List.getLast?_eq_none_iff]at hr;rw[hr]at ih hl;have hn:¬(0<i/\f (i-1)=true):=fun h=>by
     obtain⟨r',h1,h2⟩:=hl.2 h;cases h1
    have hb:(decide (0<i)&&f (i-1))=false:=by
     by_cases h0:0<i
     ·rw[decide_eq_true h0,Bool.true_and];cases h:f (i-1)with
      | false=>rfl
      | true=>exact absurd ⟨h0,h⟩ hn
     ·rw[decide_eq_false h0,Bool.false_and]
    rw[hb,<- ih];rfl
def upd (f:Nat->Bool)(a b:Nat)(v:Bool)(p:Nat):Bool:=if a<=p/\p<b then v else f p
theorem Px (f:Nat->Bool)(a b:Nat)(v:Bool)(hab:a<b)(p:Nat):(if vJ (upd f a b v) p then 1 else 0)<=(if vJ f p then 1 else 0)+if p=(if v then a else b)then 1 else 0:=by
 have key:vJ (upd f a b v) p=true->vJ f p=true∨p=(if v then a else b):=by
  intro h;unfold vJ at h ⊢;simp only[Bool.and_eq_true,Bool.not_eq_true',Bool.and_eq_false_iff,decide_eq_false_iff_not]at h ⊢;obtain⟨h1,h2⟩:=h;unfold upd at h1 h2;cases v with
  | true=>
   simp only[if_true]at h1 h2 ⊢;by_cases hin:a<=p/\p<b
   ·by_cases e:p=a
    ·exact .inr e
    ·exfalso;rw[if_pos (by omega)]at h2;rcases h2 with h2 | h2
     ·omega
     ·cases h2
   ·rw[if_neg hin]at h1;by_cases e:p=b
    ·exfalso;rw[if_pos (by omega)]at h2;rcases h2 with h2 | h2
     ·omega
     ·cases h2
    ·left;refine⟨h1,?_⟩;by_cases h0:0<p
     ·rw[if_neg (by omega)]at h2;exact h2
     ·exact .inl h0
  | false=>
   simp only[Bool.false_eq_true,if_false]at h1 h2 ⊢;by_cases hin:a<=p/\p<b
   ·rw[if_pos hin]at h1;cases h1
   ·rw[if_neg hin]at h1;by_cases e:p=b
    ·exact .inr e
    ·left;refine⟨h1,?_⟩;by_cases h0:0<p
     ·rw[if_neg (by omega)]at h2;exact h2
     ·exact .inl h0
 cases hs:vJ (upd f a b v) p with
 | false=>simp
 | true=>
  rcases key hs with h | h
  ·rw[h];simp
  ·rw[if_pos h];simp
theorem DU (f:Nat->Bool)(a b:Nat)(v:Bool)(hab:a<b):∀n,starts (upd f a b v) n<=starts f n+if(if v then a else b)<n then 1 else 0
 | 0=>by simp[starts]
 | n+1=>by
  have ih:=DU f a b v hab n;have h:=Px f a b v hab n;unfold starts;generalize (if v then a else b)=c at*;by_cases h1:n=c
  ·subst h1;have e1:(if n<n then 1 else 0:Nat)=0:=if_neg (by omega);have e2:(if n<n+1 then 1 else 0:Nat)=1:=if_pos (by omega);rw[e1]at ih;rw[if_pos rfl]at h;rw[e2];omega
  ·rw[if_neg h1]at h;by_cases h2:c<n
   ·have e1:(if c<n then 1 else 0:Nat)=1:=if_pos h2;have e2:(if c<n+1 then 1 else 0:Nat)=1:=if_pos (by omega);rw[e1]at ih;rw[e2];omega
   ·have e1:(if c<n then 1 else 0:Nat)=0:=if_neg h2;have e2:(if c<n+1 then 1 else 0:Nat)=0:=if_neg (by omega);rw[e1]at ih;rw[e2];omega
theorem Py (c:Prop)[Decidable c]:(if c then 1 else 0:Nat)<=1:=by split <;> omega
theorem pW (f:Nat->Bool)(a b:Nat)(v:Bool)(hab:a<b):(dK (upd f a b v)).length<=(dK f).length+1:=by
 unfold dK;rw[sS,sS];have h1:=DU f a b v hab 256;have h2:=Py ((if v then a else b)<256);omega
theorem sU:∀(l:List Rg) (q:Rg),dD (some q) l=true->∀r∈l,q.f+q.s<r.f
 | [],_,_,r,hr=>by simp at hr
 | x::l,q,h,r,hr=>by
  simp only[dD,Bool.and_eq_true]at h;have hx:q.f+q.s<x.f:=of_decide_eq_true h.1.2;rcases List.mem_cons.1 hr with rfl | hr
  ·exact hx
  ·have h1:=sU l x h.2 r hr;have h2:=kV h.1.1;omega
theorem kD (l:List Rg)(p:Nat):dA l p=true↔∃r∈l,r.f<=(p:Int)/\(p:Int)<r.f+r.s:=by
 unfold dA pV;simp[List.any_eq_true]
theorem Gm:∀(l m:List Rg) (q q':Option Rg),dD q l=true->dD q' m=true->(∀p,dA l p=dA m p)->l=m
 | [],[],_,_,_,_,_=>rfl
 | [],y::m,_,q',_,h2,h=>by
  simp only[dD,Bool.and_eq_true]at h2;have hy:=kV h2.1.1;obtain⟨n,hn⟩:=Int.eq_ofNat_of_zero_le hy.1;have:dA (y::m) n=true:=(kD _ _).2 ⟨y,by simp,by omega,by omega⟩;rw[<- h n]at this;simp[dA]at this
 | x::l,[],q,_,h1,_,h=>by
  simp only[dD,Bool.and_eq_true]at h1;have hy:=kV h1.1.1;obtain⟨n,hn⟩:=Int.eq_ofNat_of_zero_le hy.1;have:dA (x::l) n=true:=(kD _ _).2 ⟨x,by simp,by omega,by omega⟩;rw[h n]at this;simp[dA]at this
 | x::l,y::m,q,q',h1,h2,h=>by
  simp only[dD,Bool.and_eq_true]at h1 h2;obtain⟨⟨hx,_⟩,hl⟩:=h1;obtain⟨⟨hy,_⟩,hm⟩:=h2;have px:=kV hx;have py:=kV hy;have lx:=sU l x hl;have ly:=sU m y hm;have lower:∀(z:Rg) (t:List Rg),1<=z.s->(∀r∈t,z.f+z.s<r.f)->∀p:Nat,dA (z::t) p=true->z.f<=p:=fun z t hz ht p hp=>by
   obtain⟨r,hr,h3,h4⟩:=(kD _ _).1 hp;rcases List.mem_cons.1 hr with rfl | hr
   ·exact h3
   ·have:=ht r hr;omega
  obtain⟨n,hn⟩:=Int.eq_ofNat_of_zero_le px.1;obtain⟨n',hn'⟩:=Int.eq_ofNat_of_zero_le py.1;have e1:y.f<=x.f:=by
   have:dA (x::l) n=true:=(kD _ _).2 ⟨x,by simp,by omega,by omega⟩;rw[h n]at this;have:=lower y m py.2.1 ly n this;omega
  have e2:x.f<=y.f:=by
   have:dA (y::m) n'=true:=(kD _ _).2 ⟨y,by simp,by omega,by omega⟩;rw[<- h n']at this;have:=lower x l px.2.1 lx n' this;omega
  have ef:x.f=y.f:=by omega
  have gap:∀(z z':Rg) (t t':List Rg),z.f=z'.f->0<=z.f->1<=z.s->(∀r∈t,z.f+z.s<r.f)->(∀p,dA (z::t) p=dA (z'::t') p)->¬z.s<z'.s:=fun z z' t t' hf h0 hs ht hpp hlt=>by
   obtain⟨k,hk⟩:=Int.eq_ofNat_of_zero_le (show 0<=z.f+z.s by omega);have h3:dA (z'::t') k=true:=(kD _ _).2 ⟨z',by simp,by omega,by omega⟩;rw[<- hpp k]at h3;obtain⟨r,hr,h4,h5⟩:=(kD _ _).1 h3;rcases List.mem_cons.1 hr with rfl | hr
   ·omega
   ·have:=ht r hr;omega
  have es:x.s=y.s:=by
   have g1:=gap x y l m ef px.1 px.2.1 lx h;have g2:=gap y x m l ef.symm py.1 py.2.1 ly (fun p=>(h p).symm);omega
  have exy:x=y:=by
   obtain⟨a,b⟩:=x;obtain⟨c,d⟩:=y;simp only at ef es;rw[ef,es]
  subst exy;congr 1;refine Gm l m (some x) (some x) hl hm fun p=> ?_
  have hp:=h p;by_cases hin:x.f<=(p:Int)/\(p:Int)<x.f+x.s
  ·have n1:dA l p=false:=by
    rw[Bool.eq_false_iff];intro hh;obtain⟨r,hr,h4,h5⟩:=(kD _ _).1 hh;have:=lx r hr;omega
   have n2:dA m p=false:=by
    rw[Bool.eq_false_iff];intro hh;obtain⟨r,hr,h4,h5⟩:=(kD _ _).1 hh;have:=ly r hr;omega
   rw[n1,n2]
  ·have n0:pV x p=false:=decide_eq_false hin;simp only[dA,List.any_cons]at hp ⊢;rw[n0,Bool.false_or,Bool.false_or]at hp;exact hp
theorem DV {l:List Rg}(h:dF l=true):l=dK (dA l):=by
 have hall:=mZ h;simp only[dF,Bool.and_eq_true]at h;refine Gm l _ none none h.2 (vH _) fun p=> ?_
 by_cases hp:p<256
 ·rw[EN _ p hp]
 ·rw[EO _ p (by omega),Bool.eq_false_iff];intro hh;obtain⟨r,hr,h4,h5⟩:=(kD _ _).1 hh;have:=kV (hall r hr);omega
end
section
open Go.RowKit
theorem QL:(Tryz.prog.info? 55).map (fun i=>(i.zero,i.size,i.bytes))=some (some (.agg #[.int .i64 0,.int .i64 0]),2,16):=by kernel_rfl
theorem BK (w:World)(vs:List Value)(t:TypeId):Row (w.alloc (.cells vs.toArray t)) (some ⟨w.heap.size,0,none⟩) vs:=by
 intro j u hj;exact⟨w.heap.size,0,rfl,by simp,by rw[Nat.zero_add,aW];simpa using hj⟩
theorem Gn (f:Nat->Bool):∀i,(gU f i).length<=i
 | 0=>by simp[gU]
 | i+1=>by
  have ih:=Gn f i;unfold gU;split
  ·unfold kW;split
   ·split
    ·have:0<i+1:=by omega
     simp only[List.length_append,List.length_dropLast,List.length_cons,List.length_nil];omega
    ·simp;omega
   ·simp
  ·omega
theorem IU {w:World}{a:Option Addr}{f:Nat->Bool}(hr:Row w a ((bl f).map vB)){k:Nat}(h:k<256):
 ∃b off,a=some ⟨b,off,none⟩/\b<w.heap.size/\w.cell? ⟨b,off+k,none⟩=some (.bool (f k)):=
 hr k (vB (f k)) (by rw[List.getElem?_map,Pv f k h];rfl)
set_option maxRecDepth 100000 in
theorem Me (a:Option Addr)(cap:Nat)(f:Nat->Bool)(w:World)(hr:Row w a ((bl f).map vB)):
 Calls Tryz.prog 102 #[.slice a 256 cap] w fun e w'=>∃a' c',e= .returned (.slice a' (dK f).length c')/\w'.ownsRow w.heap.size 55 2 (.slice a' (dK f).length c') (dK f).length (flat gZ (dK f))/\Below w.heap.size w w':=by
 go_enter Tryz.func102,Tryz.ntmps102
 go_wp2
 go_loopw [3,4,5,6,9] (fun s3 _ _ _ s9 wr=>∃(i:Nat) (a3:Option Addr) (c3:Nat),i<=256/\s9= .int .i64 i/\s3= .slice a3 (gU f i).length c3/\Hid (wr.ownsRow w.heap.size 55 2 (.slice a3 (gU f i).length c3) (gU f i).length (flat gZ (gU f i)))/\Below w.heap.size w wr) (fun _ _ _ _ s9 _=>256-(intOf s9).toNat)
 case atStart=>exact⟨0,none,0,by omega,rfl,rfl,World.ownsRow_nil _ _ _ _,Below.refl _ _⟩
 case round=>
  obtain⟨i,a3,c3,hi,rfl,rfl,hown,hbw⟩:=hrel;by_cases hlt:i<256
  ·obtain⟨b,off,rfl,hb,hc⟩:=IU (hr.below hbw) hlt;have hlen:=Gn f i;cases hf:f i with
   | false=>
    have hs:gU f (i+1)=gU f i:=by conv=>lhs;unfold gU;rw[hf];simp
    have HS:=gO hs;rw[hf]at hc;clear hs hf;go_wp2
    go_roundw
    case rel=>exact⟨i+1,a3,c3,by omega,by go_num,by rw[HS.out],by rw[HS.out];exact hown,hbw⟩
    case measure=>simp[intOf];omega
   | true=>
    have hs:gU f (i+1)=kW (gU f i) i:=by conv=>lhs;unfold gU;rw[hf];simp
    have HS:=gO hs;rw[hf]at hc;clear hs hf;generalize hL:gU f i=L at*;have hinv:IJ f i L:=by rw[<- hL];exact nC f i
    clear hL;rcases List.eq_nil_or_concat L with rfl | ⟨M,r,rfl⟩
    ·have HO:=gO (own_below hown.out (aF wr (.cells #[.int .i64 (i:Int),.int .i64 1] 55)) (Nat.le_refl _));have HN:=gO (BK wr (gZ ⟨i,1⟩) 55);have hsz:=hbw.size;have hb1:Below w.heap.size w (wr.alloc (.cells #[.int .i64 (i:Int),.int .i64 1] 55)):=Below.step hbw (aF _ _);go_wp2_with (at_builtin;refine iI rfl _ _ 25 rfl w.heap.size 55 (.agg #[.int .i64 0,.int .i64 0]) 2 16 Tryz.underlying25 QL rfl (by decide) (by decide) _ _ _ _ rfl HO.out (some ⟨wr.heap.size,0,none⟩) 1 1 (gZ ⟨i,1⟩) rfl rfl HN.out (by simp[gZ,vI,Value.oneCell']) (by simp) (by simp;omega) ?_)
     intro a' c' w2 hown2 hgrow;have hb2:=below_grown hb1 HO.out hgrow (Nat.le_refl _) (by simp;omega);have HO2:=gO hown2;clear hown2 HO HN hgrow;go_wp2
     go_roundw
     case rel=>exact⟨i+1,a',c',by omega,by go_num,by rw[HS.out];rfl,by rw[HS.out];exact HO2.out,hb2⟩
     case measure=>simp[intOf];omega
    ·simp only[List.concat_eq_append,List.length_append,List.length_cons,List.length_nil,Nat.zero_add]at hown hlen HS hinv ⊢;have hlow:=hinv.low r (by simp);have hsm:r.small:=by unfold Rg.small;omega
     obtain⟨g,rfl,hg,hgs,hcell,aEa⟩:=UM jO (by decide) hown.out (j:=M.length) (by simp);have hmr:(M++[r])[M.length]'(by simp)=r:=by simp
     rw[hmr]at hcell;have hc0:=hcell 0 (vI r.f) rfl;have hc1:=hcell 1 (vI r.s) rfl;have hf1:=aEa (M.length*2+1);simp only[vI,Nat.add_zero]at hc0 hc1;have hlm:M.length<=255:=by omega
     have hsz:=hbw.size;clear hcell aEa hmr hinv;cases he:(r.f+r.s == (i:Int))with
     | true=>
      have hp:kW (M++[r]) i=M++[⟨r.f,r.s+1⟩]:=by
       unfold kW;rw[List.getLast?_concat];simp only[List.dropLast_concat];rw[if_pos (eq_of_beq he)]
      rw[hp]at HS;clear hp;go_wp2_with (go_at_call 148;refine(pU r _ hsm).mono ?_;rintro e w4 ⟨rfl,hb4⟩;have aK2:=(hb4.cell (p:=⟨g,M.length*2,none⟩) hgs).trans hc0;have aK3:=(hb4.cell (p:=⟨g,M.length*2+1,none⟩) hgs).trans hc1;have aK4:=(hb4.frozen (p:=⟨g,M.length*2+1,none⟩) hgs).trans hf1)
      have h:=(World.ownsRow.stored (own_below hown.out hb4 (Nat.le_refl _)) (M.length*2+1) (vI (r.s+1))).1;have hset:(flat gZ (M++[r])).set (M.length*2+1) (vI (r.s+1))=flat gZ (M++[⟨r.f,r.s+1⟩]):=by
       rw[aT,aT,List.set_append_right _ _ (by rw[flat_length jO];omega),flat_length jO,Nat.add_sub_cancel_left];rfl
      rw[hset]at h;have HH:=gO h;clear h hset;go_roundw
      case rel=>
       refine⟨i+1,some ⟨g,0,none⟩,c3,by omega,by go_num,by rw[HS.out];simp,?_,(Below.step hbw hb4).setCell hg _⟩;rw[HS.out];have h2:=HH.out;simp only[List.length_append,List.length_cons,List.length_nil,Nat.zero_add]at h2 ⊢;exact h2
      case measure=>simp[intOf];omega
     | false=>
      have hp:kW (M++[r]) i=(M++[r])++[⟨i,1⟩]:=by
       unfold kW;rw[List.getLast?_concat];simp only;rw[if_neg (by rw[beq_eq_false_iff_ne]at he;exact he)]
      rw[hp]at HS;clear hp;go_wp2_with fail
      refine(pU r _ hsm).mono ?_;rintro e w4 ⟨rfl,hb4⟩;have HO4:=gO (own_below (own_below hown.out hb4 (Nat.le_refl _)) (aF w4 (.cells #[.int .i64 (i:Int),.int .i64 1] 55)) (Nat.le_refl _));have HN4:=gO (BK w4 (gZ ⟨i,1⟩) 55);have hb5:=Below.step hbw hb4;have oV:=hb5.size;have hb6:Below w.heap.size w (w4.alloc (.cells #[.int .i64 (i:Int),.int .i64 1] 55)):=Below.step hb5 (aF _ _);go_wp2_with (at_builtin;refine iI rfl _ _ 25 rfl w.heap.size 55 (.agg #[.int .i64 0,.int .i64 0]) 2 16 Tryz.underlying25 QL rfl (by decide) (by decide) _ _ _ _ rfl HO4.out (some ⟨w4.heap.size,0,none⟩) 1 1 (gZ ⟨i,1⟩) rfl rfl HN4.out (by simp[gZ,vI,Value.oneCell']) (by omega) (by simp;omega) ?_)
      intro a' c' w5 hown5 hgrow;have hb7:=below_grown hb6 HO4.out hgrow (Nat.le_refl _) (by simp;omega);have HO5:=gO hown5;clear hown5 HO4 HN4 hgrow;go_wp2
      go_roundw
      case rel=>
       refine⟨i+1,a',c',by omega,by go_num,by rw[HS.out];simp,?_,hb7⟩;rw[HS.out];have h2:=HO5.out;rw[aT];simp only[List.length_append,List.length_cons,List.length_nil,Nat.zero_add]at h2 ⊢;exact h2
      case measure=>simp[intOf];omega
  ·obtain rfl:i=256:=by omega
   go_wp2
   go_ret
   exact⟨a3,c3,rfl,hown.out,hbw⟩
end
section
open Go.RowKit
structure Bt where
 m:List Rg
 r:List Rg
def Bt.ok (b:Bt):Bool:=dF b.m&&dF b.r
structure DW (w:World)(a1 a2:Option Addr)(n1 n2:Nat)(b:Bt):Prop where
 l1:b.m.length=n1
 l2:b.r.length=n2
 r1:Row w a1 (flat gZ b.m)
 r2:Row w a2 (flat gZ b.r)
theorem DW.below {w w':World}{a1 a2:Option Addr}{n1 n2:Nat}{b:Bt}(h:DW w a1 a2 n1 n2 b)(hb:Below w.heap.size w w'):DW w' a1 a2 n1 n2 b:=⟨h.l1,h.l2,h.r1.below hb,h.r2.below hb⟩
structure rF (w:World)(base:Nat)(a1 a2:Option Addr)(n1 n2 c1 c2:Nat)(b:Bt):Prop where
 l1:b.m.length=n1
 l2:b.r.length=n2
 o1:w.ownsRow base 55 2 (.slice a1 n1 c1) n1 (flat gZ b.m)
 o2:w.ownsRow base 55 2 (.slice a2 n2 c2) n2 (flat gZ b.r)
theorem rF.at {w:World}{base:Nat}{a1 a2:Option Addr}{n1 n2 c1 c2:Nat}{b:Bt}(h:rF w base a1 a2 n1 n2 c1 c2 b):DW w a1 a2 n1 n2 b:=⟨h.l1,h.l2,aY h.o1,aY h.o2⟩
theorem rF.below {w w':World}{base:Nat}{a1 a2:Option Addr}{n1 n2 c1 c2:Nat}{b:Bt}(h:rF w base a1 a2 n1 n2 c1 c2 b)(hb:Below w.heap.size w w'):rF w' base a1 a2 n1 n2 c1 c2 b:=⟨h.l1,h.l2,own_below h.o1 hb (Nat.le_refl _),own_below h.o2 hb (Nat.le_refl _)⟩
theorem rF.base {w:World}{base base':Nat}{a1 a2:Option Addr}{n1 n2 c1 c2:Nat}{b:Bt}(h:rF w base a1 a2 n1 n2 c1 c2 b)(hb:base'<=base):rF w base' a1 a2 n1 n2 c1 c2 b:=⟨h.l1,h.l2,own_base h.o1 hb,own_base h.o2 hb⟩
theorem rF.set {w:World}{base:Nat}{a1 a2:Option Addr}{n1 n2 c1 c2:Nat}{b:Bt}(h:rF w base a1 a2 n1 n2 c1 c2 b){g:Nat}(hg:(Value.slice a1 n1 c1).ownBlock≠some g/\(Value.slice a2 n2 c2).ownBlock≠some g)(i:Nat)(u:Value):rF (w.setCell ⟨g,i,none⟩ u) base a1 a2 n1 n2 c1 c2 b:=⟨h.l1,h.l2,bI h.o1 hg.1 u,bI h.o2 hg.2 u⟩
theorem rF.ne {w:World}{base:Nat}{a1 a2:Option Addr}{n1 n2 c1 c2:Nat}{b:Bt}(h:rF w base a1 a2 n1 n2 c1 c2 b){g:Nat}(hg:g<base∨w.heap.size<=g):(Value.slice a1 n1 c1).ownBlock≠some g/\(Value.slice a2 n2 c2).ownBlock≠some g:=⟨own_ne h.o1 hg,own_ne h.o2 hg⟩
end
end Go.Proofs.YtcmpmobhongkiaaGreatDoor

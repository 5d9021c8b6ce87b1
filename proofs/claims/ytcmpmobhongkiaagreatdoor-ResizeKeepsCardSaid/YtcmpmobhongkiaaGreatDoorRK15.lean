/- joined. -/
import Derived.Test.YtcmpmobhongkiaaGreatDoorRK0
import Derived.Test.YtcmpmobhongkiaaGreatDoorRK13
import Derived.Test.YtcmpmobhongkiaaGreatDoorRK3
import Derived.Deep.AppendLies
set_option linter.unusedVariables false
set_option linter.unusedSimpArgs false
namespace Go.Proofs.YtcmpmobhongkiaaGreatDoor
section
open Go.RowKit
attribute [local go_sem ↓] jG
theorem Oz:(Tryz.prog.info? 9).map (fun i=>(i.zero,i.size,i.bytes))=some (some (.string ByteArray.empty),1,16):=by kernel_rfl
theorem CX (l:List (List UInt8)):∀u∈flat encS l,u.oneCell'=true:=by
 intro u hu;simp only[flat,List.mem_flatMap]at hu;obtain⟨r,_,hr⟩:=hu;simp only[encS,List.mem_cons,List.not_mem_nil,or_false]at hr;rcases hr with rfl <;> rfl
set_option maxRecDepth 100000 in
theorem JZ (base:Nat)(a:Option Addr)(n c g:Nat)(l:List (List UInt8))(b:List UInt8)(w:World)(hown:w.ownsRow base 9 1 (.slice a n c) n (flat encS l))(hn:n<=1000)(hbase:base<=w.heap.size)(hv:Row w (some ⟨g,0,none⟩) (encS b)):
 Calls Tryz.prog 69 #[.slice a n c,.int .i64 n,.slice (some ⟨g,0,none⟩) 1 1] w fun ev w'=>∃a' c',ev= .returned (.slice a' (n+1) c')/\w'.ownsRow base 9 1 (.slice a' (n+1) c') (n+1) (flat encS (l++[b]))/\w.grownBy w' (Value.ownBlock (.slice a n c))/\(∀k,(Value.slice a' (n+1) c').ownBlock=some k->(Value.slice a n c).ownBlock=some k∨w.heap.size<=k):=by
 have hnc:=dQ hown;have HO:=gO hown;clear hown;have b2:(n:Int)<=c:=by omega
 obtain⟨ti,hti,htz,hts,htb⟩:=info_parts Oz;have hnews:∀j u,(encS b)[j]? =some u->w.cell? ((⟨g,0,none⟩:Addr).add j)=some u:=fun j u hj=>by
  obtain⟨b',off,e,_,h2⟩:=hv j u hj;obtain⟨rfl,rfl⟩:g=b'/\0=off:=by simpa using e
  rw[Addr.add_lit];exact h2
 go_enter Tryz.func69,Tryz.ntmps69
 go_wp2_with (at_builtin;refine wpList_append_lies _ rfl _ _ 91 rfl base 9 ti (.string ByteArray.empty) 1 16 Tryz.underlying91 hti htz hts htb rfl (by decide) _ n _ rfl HO.out ⟨g,0,none⟩ 1 1 (encS b) rfl rfl hnews (by simp[encS,sV,Value.oneCell']) (by decide) (by unfold maxLen;omega) (by omega) hbase _ rfl ?_)
 intro g1 c' w1 hown1 hg hlies hlt1;rw[show flat encS l++encS b=flat encS (l++[b])from by rw[aT,gX]]at hown1;have HO1:=gO hown1;have HL1:=gO hlies;clear hown1 HO hnews hlies;go_wp2
 go_ret
 exact⟨_,c',rfl,HO1.out,hg,fun k hk=>by
  obtain rfl:g1=k:=by simpa[Value.ownBlock]using hk
  rcases HL1.out with h | h
  ·exact .inl h
  ·exact .inr (Nat.le_of_eq h.symm)⟩
set_option maxRecDepth 100000 in
theorem Ig (base:Nat)(a:Option Addr)(n c g i:Nat)(l:List (List UInt8))(b:List UInt8)(w:World)(hown:w.ownsRow base 9 1 (.slice a n c) n (flat encS l))(hi:i<n)(hn:n<=1000)(hc:c<n+1)(hbase:base<=w.heap.size)(hv:Row w (some ⟨g,0,none⟩) (encS b)):
 Calls Tryz.prog 69 #[.slice a n c,.int .i64 i,.slice (some ⟨g,0,none⟩) 1 1] w fun ev w'=>∃a' c',ev= .returned (.slice a' (n+1) c')/\w'.ownsRow base 9 1 (.slice a' (n+1) c') (n+1) (flat encS (l.take i++b::l.drop i))/\w.grownBy w' (Value.ownBlock (.slice a n c))/\(∀k,(Value.slice a' (n+1) c').ownBlock=some k->(Value.slice a n c).ownBlock=some k∨w.heap.size<=k):=by
 have hnc:=dQ hown;have hln:l.length=n:=bC aZ (by decide) hown;have hfl:=flat_length aZ l;obtain⟨G,zs,w1,hrz,hzl,hown1,hg1⟩:=uO (P:=Tryz.prog) 91 3 91 9 Tryz.underlying91 Tryz.underlying3 (.string ByteArray.empty) 1 16 Oz rfl (by decide) a i c _ base (jK hown (show i<=n by omega)) (n+1-i) (by omega) (by omega) (by omega) (by omega);rw[show i+(n+1-i)=n+1 by omega]at hrz hown1;rw[show((n+1-i:Nat):Int)=(n:Int)+1-(i:Int)by omega]at hrz;rw[eH aZ]at hown1;have HR:=gO (aY hown);have hGn:=dQ hown1;have HO1:=gO hown1;have HG1:=gO hg1;have hbw:=gO ((Below.refl w.heap.size w).grown hg1 (Nat.le_refl _) (by simp));have b0:(i:Int)<=n:=by omega
 have b2:(i:Int)<=c:=by omega
 have b3:¬(i:Int)=n:=by omega
 have b4:(c:Int)<(n:Int)+1:=by omega
 have b5:(i:Int)<=(n:Int)+1:=by omega
 have b6:((n+1:Nat):Int)<=G:=by omega
 have hsz:(Tryz.prog.info? 9).map (·.size)=some 1:=by kernel_rfl
 have hv1:=hv.mono hbw.out (Nat.le_refl _);have htl:(flat encS (l.take i)).length=i*1:=by rw[flat_length aZ,List.length_take];omega
 have lU:bY (some ⟨w.heap.size,0,none⟩) i G 1=(some ⟨w.heap.size,0,none⟩:Option Addr).map (·.add (i*1)):=by unfold bY;rw[if_neg (by omega)]
 have lV:bY (some ⟨w.heap.size,0,none⟩) (i+1) G 1=(some ⟨w.heap.size,0,none⟩:Option Addr).map (·.add ((i+1)*1)):=by unfold bY;rw[if_neg (by omega)]
 obtain⟨w2,hcp1,hown2,hg2⟩:=iY (P:=Tryz.prog) 91 91 3 9 Tryz.underlying91 1 hsz (bY (some ⟨w.heap.size,0,none⟩) i G 1) (some ⟨g,0,none⟩) (n+1-i) (G-i) 1 1 (encS b) (by rw[show Nat.min 1 (n+1-i)=1 from Nat.min_eq_left (by omega)];rfl) hv1 (by simp[encS,sV,Value.oneCell']) w.heap.size (n+1) G i (some ⟨w.heap.size,0,none⟩) _ HO1.out (fun _=>lU) (fun h=>by rw[lU]at h;simp at h) (by rw[aZ];omega);rw[aZ,List.take_left' htl,<- Nat.succ_mul]at hown2;have hdrop:(flat encS (l.take i)++zs).drop ((i+1)*1)=zs.drop 1:=by rw[List.drop_append,List.drop_eq_nil_of_le (by omega),htl,List.nil_append];congr 1;omega
 rw[Nat.succ_eq_add_one,hdrop]at hown2;have hbw2:=(hbw.out.grown hg2 hbw.out.size (by intro k hk;simp[Value.ownBlock]at hk;omega)).drew;have lW:=own_below hown2 ((Below.refl w2.heap.size w2).drew) (Nat.le_refl _);have hrow:=((aY hown).mono hbw2 (Nat.le_refl _)).cut i c 1 ((n-i)*1) (by omega);rw[List.take_of_length_le (by rw[List.length_drop,hfl];omega),eP aZ]at hrow;have hdl:(flat encS (l.drop i)).length=(n-i)*1:=by rw[flat_length aZ,List.length_drop,hln]
 obtain⟨w3,hcp2,hown3,hg3⟩:=iY (P:=Tryz.prog) (w:=w2.drew) 91 91 3 9 Tryz.underlying91 1 hsz (bY (some ⟨w.heap.size,0,none⟩) (i+1) G 1) (bY a i c 1) (n-i) (G-(i+1)) (n-i) (c-i) (flat encS (l.drop i)) (by rw[hdl,show Nat.min (n-i) (n-i)=n-i from Nat.min_self _]) hrow (CX _) w.heap.size (n+1) G (i+1) (some ⟨w.heap.size,0,none⟩) _ lW (fun _=>lV) (fun h=>by rw[lV]at h;simp at h) (by rw[hdl];omega);rw[show(flat encS (l.take i)++encS b++zs.drop 1).take ((i+1)*1)=flat encS (l.take i)++encS b from List.take_left' (by rw[List.length_append,htl,aZ];omega),hdl,show(flat encS (l.take i)++encS b++zs.drop 1).drop ((i+1)*1+(n-i)*1)=[]from List.drop_eq_nil_of_le (by simp only[List.length_append,htl,aZ,List.length_drop,hzl];omega),List.append_nil,<- gX encS b,<- aT,<- aT,List.append_assoc,List.singleton_append]at hown3;have HO3:=gO (own_base hown3 hbase);have HG3:Hid (w.grownBy w3 (Value.ownBlock (.slice a n c))):=by
  have h1:=HG1.out;refine⟨hg3.os.trans (hg2.os.trans h1.os),hg3.tape.trans (hg2.tape.trans h1.tape),hg3.output.trans (hg2.output.trans h1.output),gQ h1.size (gQ hg2.size hg3.size),fun k hk hne=> ?_⟩;have e1:some k≠Value.ownBlock (.slice (some ⟨w.heap.size,0,none⟩) (n+1) G):=by simp[Value.ownBlock];omega
  exact(hg3.block k (gI hk (gQ h1.size hg2.size)) e1).trans ((hg2.block k (gI hk h1.size) e1).trans (h1.block k hk (by simp)))
 have b7:((i:Int)+1)<=G:=by omega
 have s1:IntKind.i64.wrap ((i:Int)+1)=(i:Int)+1:=IntWalk.i64_in _ (by omega);have b8:0<=(i:Int)+1:=by omega
 have b9:((i:Int)+1).toNat=i+1:=by omega
 have b10:(i:Int)+1<=(n:Int)+1:=by omega
 clear hown hown2 lW hown3 hg1 hg2 hg3 hown1 hrow hv1 hbw2 HO1 HR HG1 hdrop lU lV;go_enter Tryz.func69,Tryz.ntmps69
 go_wp2_with (at_builtin;refine jX rfl _ _ 91 3 rfl _ _ rfl rfl hrz ?_)
 go_still_tail 8,(by kernel_rfl)
 change wpList _ _ _ _ _ w2.drew;generalize w2.drew=w2d at*;go_wp2
 go_ret
 exact⟨_,_,rfl,HO3.out,HG3.out,fun k hk=> .inr (by simp[Value.ownBlock]at hk;omega)⟩
set_option maxHeartbeats 1000000 in
set_option maxRecDepth 100000 in
theorem Ez (base:Nat)(a:Option Addr)(n c g i:Nat)(l:List (List UInt8))(b:List UInt8)(w:World)(hown:w.ownsRow base 9 1 (.slice a n c) n (flat encS l))(hi:i<n)(hn:n<=1000)(hc:n+1<=c)(hbase:base<=w.heap.size)(hgb:w.heap[g]? =some (.cells (encS b).toArray 9 (0,0)))(hne:some g≠Value.ownBlock (.slice a n c))(hv:Row w (some ⟨g,0,none⟩) (encS b)):
 Calls Tryz.prog 69 #[.slice a n c,.int .i64 i,.slice (some ⟨g,0,none⟩) 1 1] w fun ev w'=>∃a' c',ev= .returned (.slice a' (n+1) c')/\w'.ownsRow base 9 1 (.slice a' (n+1) c') (n+1) (flat encS (l.take i++b::l.drop i))/\w.grownBy w' (Value.ownBlock (.slice a n c))/\(∀k,(Value.slice a' (n+1) c').ownBlock=some k->(Value.slice a n c).ownBlock=some k∨w.heap.size<=k):=by
 have hln:l.length=n:=bC aZ (by decide) hown;have hfl:=flat_length aZ l;obtain⟨g0,cur,rfl,hg0,hcs,hcm⟩:∃g0 cur,a=some ⟨g0,0,none⟩/\w.heap[g0]? =some (.cells cur 9 (0,0))/\cur.size=c*1/\c<=maxLen:=by
  rcases hown.2 with ⟨h',h2⟩ | ⟨g0,cap,cur,h',_,hg,_,hcm,hs,_⟩
  ·omega
  ·obtain⟨rfl,rfl⟩:a=some ⟨g0,0,none⟩/\c=cap:=by simpa using h'
   exact⟨g0,cur,rfl,hg,hs,hcm⟩
 have hgg:g≠g0:=fun e=>hne (by rw[e];rfl)
 have hcut:∀j,j<=n->bY (some ⟨g0,0,none⟩) j c 1=(some ⟨g0,0,none⟩:Option Addr).map (·.add (j*1)):=fun j hj=>by unfold bY;rw[if_neg (by omega)]
 have pK:bY (some ⟨g0,0,none⟩) (i+1) c 1=some ⟨g0,(i+1)*1,none⟩:=by rw[hcut _ (by omega)];simp[Addr.add_lit]
 have hsz:(Tryz.prog.info? 9).map (·.size)=some 1:=by kernel_rfl
 have hov:(callFunc 121 #[.slice (some ⟨g,0,none⟩) 1 1,.slice (bY (some ⟨g0,0,none⟩) (i+1) c 1) (n-i) (c-(i+1))]).run Tryz.prog w= .ok (.value (.bool false)) w:=by
  rw[pK,run_callFunc_extern Tryz.func121 (by kernel_rfl) (by kernel_rfl) (by kernel_rfl) (e:=Extern.SlicesOverlaps.overlaps #[91,91] #[4]) (by kernel_rfl),
   Lib.run_overlaps_apart w 91 4 9 Tryz.underlying91 1 Tryz.sizeOf9 ⟨g,0,none⟩ ⟨g0,(i+1)*1,none⟩ 1 1 _ _ hgg 9 9 1 (c*1) (by simp[World.shape?,hgb,encS]) (by simp[World.shape?,hg0,hcs]) (by omega) (by simp[World.frozen?,hgb]) (by simp[World.frozen?,hgb])]
  rfl
 obtain⟨ys,hyl,hroom⟩:=uI hown (show n<=n+1 by omega) hc;rw[show(n+1-n)*1=1 by omega]at hyl;have hdl:(flat encS (l.drop i)).length=(n-i)*1:=by rw[flat_length aZ,List.length_drop,hln]
 have htl:(flat encS (l.take i)).length=i*1:=by rw[flat_length aZ,List.length_take];omega
 have hwd:Below w.heap.size w w.drew:=(Below.refl w.heap.size w).drew;have hroomd:=own_below hroom hwd (Nat.le_refl _);have hrow:=((aY hown).below hwd).cut i c 1 ((n-i)*1) (by omega);rw[List.take_of_length_le (by rw[List.length_drop,hfl];omega),eP aZ]at hrow;obtain⟨w2,hcp1,hown2,hg2⟩:=iY (P:=Tryz.prog) (w:=w.drew) 91 91 3 9 Tryz.underlying91 1 hsz (bY (some ⟨g0,0,none⟩) (i+1) c 1) (bY (some ⟨g0,0,none⟩) i c 1) (n-i) (c-(i+1)) (n+1-i) (c-i) (flat encS (l.drop i)) (by rw[hdl,show Nat.min (n+1-i) (n-i)=n-i from Nat.min_eq_right (by omega)]) hrow (CX _) base (n+1) c (i+1) (some ⟨g0,0,none⟩) _ hroomd (fun _=>hcut _ (by omega)) (fun h=>by rw[hcut _ (by omega)]at h;simp at h) (by rw[hdl];omega);have hX:((flat encS l++ys).take ((i+1)*1)++flat encS (l.drop i)++(flat encS l++ys).drop ((i+1)*1+(flat encS (l.drop i)).length))=(flat encS l++ys).take ((i+1)*1)++flat encS (l.drop i):=by
  rw[show(flat encS l++ys).drop ((i+1)*1+(flat encS (l.drop i)).length)=[]from List.drop_eq_nil_of_le (by rw[List.length_append,hfl,hdl];omega),List.append_nil]
 rw[hX]at hown2;have Hr:((flat encS l++ys).take ((i+1)*1)).length=(i+1)*1:=by rw[List.length_take,List.length_append,hfl];omega
 have hv2:=qW (hv.below hwd) hg2 hne;obtain⟨w3,hcp2,hown3,hg3⟩:=iY (P:=Tryz.prog) (w:=w2) 91 91 3 9 Tryz.underlying91 1 hsz (bY (some ⟨g0,0,none⟩) i c 1) (some ⟨g,0,none⟩) (n+1-i) (c-i) 1 1 (encS b) (by rw[show Nat.min 1 (n+1-i)=1 from Nat.min_eq_left (by omega)];rfl) hv2 (by simp[encS,sV,Value.oneCell']) base (n+1) c i (some ⟨g0,0,none⟩) _ hown2 (fun _=>hcut _ (by omega)) (fun h=>by rw[hcut _ (by omega)]at h;simp at h) (by rw[aZ];omega);have hY:((flat encS l++ys).take ((i+1)*1)++flat encS (l.drop i)).take (i*1)++encS b++((flat encS l++ys).take ((i+1)*1)++flat encS (l.drop i)).drop (i*1+(encS b).length)=flat encS (l.take i++b::l.drop i):=by
  rw[aZ,show i*1+1=(i+1)*1 by omega,List.drop_left' Hr,List.take_append_of_le_length (by rw[Hr];omega),List.take_take,show min (i*1) ((i+1)*1)=i*1 by omega,List.take_append_of_le_length (by rw[hfl];omega),eH aZ,aT,dM,List.append_assoc]
 rw[hY]at hown3;have HO3:=gO hown3;have HG3:Hid (w.grownBy w3 (Value.ownBlock (.slice (some ⟨g0,0,none⟩) n c))):=
  ⟨hg3.os.trans hg2.os,hg3.tape.trans hg2.tape,hg3.output.trans hg2.output,gQ hg2.size hg3.size,fun k hk hnk=>(hg3.block k (gI hk hg2.size) hnk).trans (hg2.block k hk hnk)⟩
 have b0:(i:Int)<=n:=by omega
 have b2:(i:Int)<=c:=by omega
 have b3:¬(i:Int)=n:=by omega
 have b4:¬(c:Int)<(n:Int)+1:=by omega
 have b5:(i:Int)<=(n:Int)+1:=by omega
 have b6:(n:Int)+1<=c:=by omega
 have b7:((i:Int)+1)<=c:=by omega
 have s1:IntKind.i64.wrap ((i:Int)+1)=(i:Int)+1:=IntWalk.i64_in _ (by omega);have b8:0<=(i:Int)+1:=by omega
 have b9:((i:Int)+1).toNat=i+1:=by omega
 have b10:(i:Int)+1<=(n:Int)+1:=by omega
 have b11:((n:Int)+1).toNat=n+1:=by omega
 have b12:c<=9223372036854775807:=by unfold maxLen at hcm;omega
 clear hown hroom hroomd hrow hown2 hown3 hg2 hg3 hX hY hv hv2 hcut pK hg0 hgb hcs;go_enter Tryz.func69,Tryz.ntmps69
 go_wp2_with (simp only[hov])
 go_still_tail 8,(by kernel_rfl)
 change wpList _ _ _ _ _ w.drew;go_wp2
 go_ret
 exact⟨_,_,rfl,HO3.out,HG3.out,fun k hk=> .inl hk⟩
theorem Vr (base:Nat)(a:Option Addr)(n c g i:Nat)(l:List (List UInt8))(b:List UInt8)(w:World)(hown:w.ownsRow base 9 1 (.slice a n c) n (flat encS l))(hi:i<=n)(hn:n<=1000)(hbase:base<=w.heap.size)(hgb:w.heap[g]? =some (.cells (encS b).toArray 9 (0,0)))(hne:some g≠Value.ownBlock (.slice a n c)):
 Calls Tryz.prog 69 #[.slice a n c,.int .i64 i,.slice (some ⟨g,0,none⟩) 1 1] w fun ev w'=>∃a' c',ev= .returned (.slice a' (n+1) c')/\w'.ownsRow base 9 1 (.slice a' (n+1) c') (n+1) (flat encS (l.take i++b::l.drop i))/\w.grownBy w' (Value.ownBlock (.slice a n c))/\(∀k,(Value.slice a' (n+1) c').ownBlock=some k->(Value.slice a n c).ownBlock=some k∨w.heap.size<=k):=by
 have hlt:g<w.heap.size:=(Array.getElem?_eq_some_iff.1 hgb).1;have hv:Row w (some ⟨g,0,none⟩) (encS b):=by
  intro j v hj;exact⟨g,0,rfl,hlt,by rw[Nat.zero_add,cell_of_row _ _ _ _ _ _ hgb];simpa using hj⟩
 have hln:l.length=n:=bC aZ (by decide) hown;by_cases he:i=n
 ·subst he;have:=JZ base a i c g l b w hown hn hbase hv;rw[List.take_of_length_le (by omega),List.drop_eq_nil_of_le (by omega)];exact this
 ·by_cases hc:n+1<=c
  ·exact Ez base a n c g i l b w hown (by omega) hn hc hbase hgb hne hv
  ·exact Ig base a n c g i l b w hown (by omega) hn (by omega) hbase hv
end
end Go.Proofs.YtcmpmobhongkiaaGreatDoor

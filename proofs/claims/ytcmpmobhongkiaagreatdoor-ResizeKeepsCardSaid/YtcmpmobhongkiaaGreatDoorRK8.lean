/- joined. -/
import Derived.Test.YtcmpmobhongkiaaGreatDoorRK0
import Derived.Test.YtcmpmobhongkiaaGreatDoorRK4
import Derived.Test.YtcmpmobhongkiaaGreatDoorRK5
set_option linter.unusedVariables false
set_option linter.unusedSimpArgs false
namespace Go.Proofs.YtcmpmobhongkiaaGreatDoor
section
open Go.RowKit
theorem yB {w:World}{b1 b2:Nat}{e1 e2:TypeId}{s1 s2:Nat}{v1 v2:Value}{n1 n2:Nat}{xs ys:List Value}(h1:w.ownsRow b1 e1 s1 v1 n1 xs)(h2:w.ownsRow b2 e2 s2 v2 n2 ys)(he:e1≠e2)(k:Nat)(hk:v1.ownBlock=some k):v2.ownBlock≠some k:=by
 intro hk2;rcases h1.2 with ⟨h',_⟩ | ⟨g,cap,cur,h',_,hg,_⟩
 ·rw[h']at hk;cases hk
 ·rcases h2.2 with ⟨h'',_⟩ | ⟨g2,cap2,cur2,h'',_,hg2,_⟩
  ·rw[h'']at hk2;cases hk2
  ·rw[h']at hk;rw[h'']at hk2;simp only[Value.ownBlock,Option.some.injEq]at hk hk2;subst hk;subst hk2;rw[hg]at hg2;simp only[Option.some.injEq,Obj.cells.injEq]at hg2;exact he hg2.2.1
theorem bT {w w':World}{b:Nat}{vs:Array Value}(h:∀o,w.cell? ⟨b,o,none⟩=vs[o]?)(hlt:b<w.heap.size){row:Option Nat}(hg:w.grownBy w' row)(hne:some b≠row)(o:Nat):w'.cell? ⟨b,o,none⟩=vs[o]? :=by
 rw[World.cell?_of_block (hg.block b hlt hne)];exact h o
theorem bU {w w':World}{b:Nat}(h:∀o,w.frozen? ⟨b,o,none⟩=false)(hlt:b<w.heap.size){row:Option Nat}(hg:w.grownBy w' row)(hne:some b≠row)(o:Nat):w'.frozen? ⟨b,o,none⟩=false:=by
 rw[World.frozen?_of_block (hg.block b hlt hne)];exact h o
structure CP (w W:World)(B:Nat)(a1 a2:Option Addr)(n1 n2 c1 c2:Nat)(z:Zn)(a o t:Nat):Prop where
 k3:∀i,W.cell? ⟨w.heap.size,i,none⟩=(#[.int .i64 z.f,.int .i64 z.e,.slice a1 n1 c1,.slice a2 n2 c2]:Array Value)[i]?
 f3:∀i,W.frozen? ⟨w.heap.size,i,none⟩=false
 k6:∀i,W.cell? ⟨w.heap.size+1,i,none⟩=(#[.int .i64 0,.int .i64 0,.slice none 0 0,.slice none 0 0]:Array Value)[i]?
 f6:∀i,W.frozen? ⟨w.heap.size+1,i,none⟩=false
 k9:∀i,W.cell? ⟨B,i,none⟩=(#[.int .i64 a,.int .i64 o,.int .i64 t]:Array Value)[i]?
 f9:∀i,W.frozen? ⟨B,i,none⟩=false
 own:gY W (B+1) a1 a2 n1 n2 c1 c2 z
 lo:w.heap.size+2<=B
 hi:B<W.heap.size
 bw:Below w.heap.size w W
section
variable {w W W':World}{B:Nat}{a1 a2:Option Addr}{n1 n2 c1 c2:Nat}{z:Zn}{a o t:Nat}
theorem CP.below (h:CP w W B a1 a2 n1 n2 c1 c2 z a o t)(hb:Below W.heap.size W W'):CP w W' B a1 a2 n1 n2 c1 c2 z a o t:=by
 have h1:=h.lo;have h2:=h.hi;exact⟨aB h.k3 (by omega) hb,aH h.f3 (by omega) hb,aB h.k6 (by omega) hb,aH h.f6 (by omega) hb,aB h.k9 h2 hb,aH h.f9 h2 hb,h.own.below hb,h1,gI h2 hb.size,Below.step h.bw hb⟩
theorem CP.put9 (h:CP w W B a1 a2 n1 n2 c1 c2 z a o t)(i:Nat)(u:Int){a' o' t':Nat}(he:(#[.int .i64 a,.int .i64 o,.int .i64 t]:Array Value).setIfInBounds i (.int .i64 u)=#[.int .i64 a',.int .i64 o',.int .i64 t']):CP w (W.setCell ⟨B,i,none⟩ (.int .i64 u)) B a1 a2 n1 n2 c1 c2 z a' o' t':=by
 have h1:=h.lo;have h2:=h.hi;exact⟨aA h.k3 (by omega) _ _,aG h.f3 _ _,aA h.k6 (by omega) _ _,aG h.f6 _ _,he▸aI h.k9 i _,aG h.f9 _ _,h.own.set (h.own.ne (.inl (by omega))) _ _,h1,by simpa using h2,h.bw.setCell (by simp only;omega) _⟩
structure aAy (w W:World)(B:Nat)(a1 a2:Option Addr)(n1 n2 c1 c2:Nat)(z:Zn)(a o t:Nat)(a1':Option Addr)(n1' c1':Nat)(l':List Bk):Prop where
 k3:∀i,W.cell? ⟨w.heap.size,i,none⟩=(#[.int .i64 z.f,.int .i64 z.e,.slice a1 n1 c1,.slice a2 n2 c2]:Array Value)[i]?
 f3:∀i,W.frozen? ⟨w.heap.size,i,none⟩=false
 k6:∀i,W.cell? ⟨w.heap.size+1,i,none⟩=(#[.int .i64 0,.int .i64 0,.slice none 0 0,.slice none 0 0]:Array Value)[i]?
 f6:∀i,W.frozen? ⟨w.heap.size+1,i,none⟩=false
 k9:∀i,W.cell? ⟨B,i,none⟩=(#[.int .i64 a,.int .i64 o,.int .i64 t]:Array Value)[i]?
 f9:∀i,W.frozen? ⟨B,i,none⟩=false
 own:gY W (B+1) a1' a2 n1' n2 c1' c2 {z with l:=l'}
 lo:w.heap.size+2<=B
 hi:B<W.heap.size
 bw:Below w.heap.size w W
theorem CP.grown (h:CP w W B a1 a2 n1 n2 c1 c2 z a o t)(hg:W.grownBy W' (Value.ownBlock (.slice a1 n1 c1))){a1':Option Addr}{n1' c1':Nat}{l':List Bk}(hl:l'.length=n1')(ho:W'.ownsRow (B+1) 63 3 (.slice a1' n1' c1') n1' (flat aO l')):aAy w W' B a1 a2 n1 n2 c1 c2 z a o t a1' n1' c1' l':=by
 have h1:=h.lo;have h2:=h.hi;have m3:=(h.own.ne (g:=w.heap.size) (.inl (by omega))).1;have m6:=(h.own.ne (g:=w.heap.size+1) (.inl (by omega))).1;have m9:=(h.own.ne (g:=B) (.inl (by omega))).1;refine⟨bT h.k3 (by omega) hg (fun e=>m3 e.symm),bU h.f3 (by omega) hg (fun e=>m3 e.symm),bT h.k6 (by omega) hg (fun e=>m6 e.symm),bU h.f6 (by omega) hg (fun e=>m6 e.symm),bT h.k9 h2 hg (fun e=>m9 e.symm),bU h.f9 h2 hg (fun e=>m9 e.symm),⟨hl,h.own.l2,ho,iW h.own.o2 hg (fun k hk e=>yB h.own.o2 h.own.o1 (by decide) k hk e)⟩,h1,gI h2 hg.size,?_⟩;exact h.bw.grown hg h.bw.size (fun k hk=>by have:=(h.own.o1.lt k hk).1;omega)
theorem aAy.put3 {a1':Option Addr}{n1' c1':Nat}{l':List Bk}(h:aAy w W B a1 a2 n1 n2 c1 c2 z a o t a1' n1' c1' l'):CP w (W.setCell ⟨w.heap.size,2,none⟩ (.slice a1' n1' c1')) B a1' a2 n1' n2 c1' c2 {z with l:=l'} a o t:=by
 have h1:=h.lo;have h2:=h.hi;exact⟨aI h.k3 2 _,aG h.f3 _ _,aA h.k6 (by omega) _ _,aG h.f6 _ _,aA h.k9 (by omega) _ _,aG h.f9 _ _,h.own.set (h.own.ne (.inl (by omega))) _ _,h1,by simpa using h2,h.bw.setCell (Nat.le_refl _) _⟩
end
end
end Go.Proofs.YtcmpmobhongkiaaGreatDoor

/-
 A machine on data for the program's functions, part 1: data, memory, operations. Over no program; no conditions.
-/
import Derived.Test.YthghcmmlmfgkbaaGreatDoorKz
open Go.RowKit
set_option linter.unusedVariables false
set_option linter.unusedSimpArgs false
namespace Go.Proofs.YthghcmmlmfgkbaaGreatDoor
section
def Same(w w':World):Prop:=∃n,w'=w.drewN n
theorem Same.refl(w:World):Same w w:=⟨0,rfl⟩
theorem Same.trans{a b c:World}(h:Same a b)(k:Same b c):Same a c:=by
 obtain⟨n,rfl⟩:=h;obtain⟨m,rfl⟩:=k;exact⟨n+m,World.drewN_drewN _ _ _⟩
theorem Same.drewN{a b:World}(h:Same a b)(n:Nat):Same a (b.drewN n):=h.trans ⟨n,rfl⟩
theorem Same.drew{a b:World}(h:Same a b):Same a b.drew:=h.trans ⟨1,rfl⟩
theorem Same.below{a b:World}(B:Nat)(h:Same a b):Below B a b:=by
 obtain⟨n,rfl⟩:=h;exact⟨rfl,rfl,rfl,AT _,λ_ _=>rfl⟩
theorem Same.size{a b:World}(h:Same a b):b.heap.size=a.heap.size:=by obtain⟨n,rfl⟩:=h;rfl
theorem Same.cell{a b:World}(h:Same a b)(p:Addr):b.cell? p=a.cell? p:=by obtain⟨n,rfl⟩:=h;rfl
theorem Wy(w:World)(o:Obj):Below w.heap.size w (w.alloc o):=(Below.refl _ _).alloc (AT _) _
def M2(w:World)(size:Nat)(v:Value)(n:Nat)(xs:List Value):Prop:=
 ∃A c,v=.slice A n c∧n<=9223372036854775807∧xs.length=n * size∧(0 < n->∃b off,A=some ⟨b,off,none⟩∧∀j u,xs[j]? =some u->w.cell? ⟨b,off+j,none⟩=some u)
theorem M2.keep{w w':World}{size n:Nat}{v:Value}{xs:List Value}(h:M2 w size v n xs)(hb:Below w.heap.size w w'):M2 w' size v n xs:=by
 obtain⟨A,c,rfl,hc,hx,hi⟩:=h
 refine⟨A,c,rfl,hc,hx,λhn=>?_⟩
 obtain⟨b,off,rfl,hcell⟩:=hi hn
 refine⟨b,off,rfl,λj u hu=>?_⟩
 have h0:=hcell j u hu
 rw[hb.cell (p:=⟨b,off+j,none⟩) (World.block_lt_of_cell? _ _ h0)]
 exact h0
def Ints(w:World)(v:Value)(l:zI):Prop:=M2 w 1 v l.length (l.map (Value.int .i64))
theorem Ints.keep{w w':World}{v:Value}{l:zI}(h:Ints w v l)(hb:Below w.heap.size w w'):Ints w' v l:=M2.keep h hb
theorem Ints.same{w w':World}{v:Value}{l:zI}(h:Ints w v l)(hs:Same w w'):Ints w' v l:=h.keep (hs.below _)
theorem Ints.drewN{w:World}{v:Value}{l:zI}(h:Ints w v l)(n:Nat):Ints (w.drewN n) v l:=h
theorem Ints.at_{w:World}{v:Value}{l:zI}(h:Ints w v l):∃A c,v=.slice A l.length c∧l.length<=9223372036854775807∧
  (0 < l.length->∃b off,A=some ⟨b,off,none⟩∧∀j (hj:j < l.length),w.cell? ⟨b,off+j,none⟩=some (.int .i64 l[j])):=by
 obtain⟨A,c,rfl,hc,hx,hi⟩:=h
 refine⟨A,c,rfl,hc,λhk=>?_⟩
 obtain⟨b,off,rfl,hcell⟩:=hi (by omega)
 exact⟨b,off,rfl,λj hj=>hcell j _ (by simp[hj])⟩
theorem Ints.form{w:World}{v:Value}{l:zI}(h:Ints w v l):∃A c,v=.slice A l.length c:=by
 obtain⟨A,c,e,_⟩:=h.at_
 exact⟨A,c,e⟩
def PN(w:World)(v:Value)(ll:List zI):Prop:=
 ∃vs:List Value,M2 w 1 v ll.length vs∧∀i (hi:i < ll.length),∃u,vs[i]? =some u∧Ints w u ll[i]
theorem PN.keep{w w':World}{v:Value}{l:List zI}(h:PN w v l)(hb:Below w.heap.size w w'):PN w' v l:=by
 obtain⟨vs,h1,h2⟩:=h
 exact⟨vs,h1.keep hb,λi hi=>let⟨u,hu,hr⟩:=h2 i hi;⟨u,hu,hr.keep hb⟩⟩
theorem PN.same{w w':World}{v:Value}{l:List zI}(h:PN w v l)(hs:Same w w'):PN w' v l:=h.keep (hs.below _)
theorem PN.at_{w:World}{v:Value}{l:List zI}(h:PN w v l):∃A c,v=.slice A l.length c∧l.length<=9223372036854775807∧
  (0 < l.length->∃b off,A=some ⟨b,off,none⟩∧∀j (hj:j < l.length),∃A' c',w.cell? ⟨b,off+j,none⟩=some (.slice A' l[j].length c')∧Ints w (.slice A' l[j].length c') l[j]):=by
 obtain⟨vs,⟨A,c,rfl,hc,hx,hi⟩,h2⟩:=h
 refine⟨A,c,rfl,hc,λhk=>?_⟩
 obtain⟨b,off,rfl,hcell⟩:=hi (by omega)
 refine⟨b,off,rfl,λj hj=>?_⟩
 obtain⟨u,hu,hr⟩:=h2 j hj
 have hr':=hr
 obtain⟨A',c',rfl,_,_⟩:=hr'
 exact⟨A',c',hcell j _ hu,hr⟩
theorem PN.form{w:World}{v:Value}{l:List zI}(h:PN w v l):∃A c,v=.slice A l.length c:=by
 obtain⟨A,c,e,_⟩:=h.at_
 exact⟨A,c,e⟩
def inB(n low high:Int):Bool:=decide (low<=n)&&decide (n<=high)
def vals(l:zI):Bool:=l.all λx=>inB x 0 99
end
section
theorem RU{a w:World}(h:Below a.heap.size a w)(row:Option Nat):a.grownBy w row:=⟨h.os,h.tape,h.output,h.size,λi hi _=>h.block i hi⟩
section
variable {w w':World}{base:Nat}{e:TypeId}{size:Nat}{v:Value}{n:Nat}{xs:List Value}
theorem Uy(h:w.ownsRow base e size v n xs)(hb:Below w.heap.size w w'):w'.ownsRow base e size v n xs:=by
 cases hv:v.ownBlock with
 |none=>exact h.kept (RU hb none) (.inl hv)
 |some g=>exact h.kept (RU hb none) (.inr (by rw[hv];simp))
theorem M2.P9(h:w.ownsRow base e size v n xs):M2 w size v n xs:=by
 rcases h.2 with⟨rfl,rfl⟩|⟨g,cap,cur,rfl,_,hh,hnc,hm,hsz,hx⟩
 ·exact⟨none,0,rfl,by omega,h.1,λh0=>absurd h0 (by omega)⟩
 ·refine⟨some ⟨g,0,none⟩,cap,rfl,by unfold maxLen at hm;omega,h.1,λ_=>⟨g,0,rfl,λj u hu=>?_⟩⟩
  have hj:j < xs.length:=by
   rcases A9 j xs.length with h1|h1
   ·exact h1
   ·rw[A2 h1]at hu;cases hu
  simp only[World.cell?,hh,CR]
  rw[<-hx,EA]at hu
  rw[h.1]at hj
  rw[Av hj]at hu
  simpa using hu
theorem cm(h:w.ownsRow base e size v n xs):∃A c,v=.slice A n c:=by
 rcases h.2 with⟨rfl,rfl⟩|⟨g,cap,cur,rfl,_⟩
 ·exact⟨_,_,rfl⟩
 ·exact⟨_,_,rfl⟩
end
theorem Ints.P9{w:World}{base:Nat}{t:TypeId}{v:Value}{l:zI}(h:w.ownsRow base t 1 v l.length (l.map (Value.int .i64))):Ints w v l:=M2.P9 h
def Apart(u v:Value):Prop:=∀g,u.ownBlock=some g->v.ownBlock≠some g
theorem Apart.symm{u v:Value}(h:Apart u v):Apart v u:=λg h1 h2=>h g h2 h1
def Own2(t:TypeId)(w:World)(base:Nat)(vs:List Value)(ll:List zI):Prop:=
 vs.length=ll.length∧(∀(j:Nat) (u:Value) (l:zI),vs[j]? =some u->ll[j]? =some l->w.ownsRow base t 1 u l.length (l.map (Value.int .i64)))∧vs.Pairwise Apart
section
variable {t tl:TypeId}{w w':World}{base:Nat}{vs:List Value}{ll:List zI}{v:Value}
theorem Own2.nil(t:TypeId)(w:World)(base:Nat):Own2 t w base [] []:=⟨rfl,by simp,List.Pairwise.nil⟩
theorem Own2.keep(h:Own2 t w base vs ll)(hb:Below w.heap.size w w'):Own2 t w' base vs ll:=⟨h.1,λj u l hu hl=>Uy (h.2.1 j u l hu hl) hb,h.2.2⟩
theorem Own2.lt(h:Own2 t w base vs ll):∀u∈vs,∀g,u.ownBlock=some g->base<=g∧g < w.heap.size:=by
 intro u hu g hg
 obtain⟨j,hj,rfl⟩:=Bf.1 hu
 exact(h.2.1 j _ _ (Ac hj) (Ac (by rw[<-h.1];exact hj))).lt g hg
theorem Own2.mono(h:Own2 t w base vs ll){base':Nat}(hb:base'<=base):Own2 t w base' vs ll:=⟨h.1,λj u l hu hl=>(h.2.1 j u l hu hl).mono hb,h.2.2⟩
def JW(t tl:TypeId)(w:World)(base:Nat)(v:Value)(ll:List zI):Prop:=
 ∃vs,w.ownsRow base tl 1 v ll.length vs∧Own2 t w base vs ll
theorem JW.mono(h:JW t tl w base v ll){base':Nat}(hb:base'<=base):JW t tl w base' v ll:=by
 obtain⟨vs,h1,h2⟩:=h
 exact⟨vs,h1.mono hb,h2.mono hb⟩
theorem JW.form(h:JW t tl w base v ll):∃A c,v=.slice A ll.length c:=by
 obtain⟨vs,h1,_⟩:=h
 rcases h1.2 with⟨rfl,h0⟩|⟨g,cap,cur,rfl,_⟩
 ·exact⟨none,0,by rw[h0]⟩
 ·exact⟨_,_,rfl⟩
theorem JW.keep(h:JW t tl w base v ll)(hb:Below w.heap.size w w'):JW t tl w' base v ll:=by
 obtain⟨vs,h1,h2⟩:=h
 exact⟨vs,Uy h1 hb,h2.keep hb⟩
theorem PN.P9(h:JW t tl w base v ll):PN w v ll:=by
 obtain⟨vs,h1,h2⟩:=h
 refine⟨vs,M2.P9 h1,λi hi=>?_⟩
 have hi':i < vs.length:=by rw[h2.1];exact hi
 exact⟨vs[i],Ac hi',Ints.P9 (h2.2.1 i _ _ (Ac hi') (Ac hi))⟩
end
structure Fr (lo hi:Nat) (w w':World):Prop where
 os:w'.os=w.os
 tape:w'.tape=w.tape
 output:w'.output=w.output
 size:w.heap.size<=w'.heap.size
 block:∀k,k < w.heap.size->(k < lo∨hi<=k)->w'.heap[k]? =w.heap[k]?
theorem Fr.refl(lo hi:Nat)(w:World):Fr lo hi w w:=⟨rfl,rfl,rfl,AT _,λ_ _ _=>rfl⟩
theorem Fr.trans{lo hi:Nat}{a b c:World}(h:Fr lo hi a b)(k:Fr lo hi b c):Fr lo hi a c:=
 ⟨k.os.trans h.os,k.tape.trans h.tape,k.output.trans h.output,BD h.size k.size,λi hi' ho=>(k.block i (Bo hi' h.size) ho).trans (h.block i hi' ho)⟩
theorem Fr.grown{lo hi:Nat}{a b:World}{row:Option Nat}(h:a.grownBy b row)(hr:∀g,row=some g->lo<=g∧g < hi):Fr lo hi a b:=
 ⟨h.os,h.tape,h.output,h.size,λi hi' ho=>h.block i hi' (λe=>by have:=hr i e.symm;omega)⟩
theorem Fr.setCell{lo hi:Nat}{a b:World}(h:Fr lo hi a b){p:Addr}(hp:lo<=p.block∧p.block < hi)(u:Value):Fr lo hi a (b.setCell p u):=
 h.trans ⟨rfl,rfl,rfl,by simp[World.setCell],λk _ ho=>Below.heap_setCell _ _ _ _ (by omega)⟩
theorem Fr.below{lo hi:Nat}{a b:World}(h:Below a.heap.size a b):Fr lo hi a b:=⟨h.os,h.tape,h.output,h.size,λi hi' _=>h.block i hi'⟩
theorem Fr.toBelow{lo hi:Nat}{a b:World}(h:Fr lo hi a b)(hl:lo<=a.heap.size):Below lo a b:=⟨h.os,h.tape,h.output,h.size,λi hi'=>h.block i (by omega) (.inl hi')⟩
theorem Fr.own{lo hi:Nat}{w w':World}{base:Nat}{e:TypeId}{size:Nat}{v:Value}{n:Nat}{xs:List Value}(h:Fr lo hi w w')(ho:w.ownsRow base e size v n xs)
  (hv:∀g,v.ownBlock=some g->g < lo∨hi<=g):w'.ownsRow base e size v n xs:=by
 rcases ho.2 with⟨rfl,rfl⟩|⟨g,cap,cur,rfl,hb,hh,r⟩
 ·exact⟨ho.1,.inl ⟨rfl,rfl⟩⟩
 ·refine⟨ho.1,.inr ⟨g,cap,cur,rfl,hb,?_,r⟩⟩
  rw[h.block g (by
   rcases A9 g w.heap.size with h1|h1
   ·exact h1
   ·rw[EU h1]at hh;cases hh) (hv g rfl)]
  exact hh
structure FrS (S:Nat->Prop) (w w':World):Prop where
 os:w'.os=w.os
 tape:w'.tape=w.tape
 output:w'.output=w.output
 size:w.heap.size<=w'.heap.size
 block:∀k,k < w.heap.size->¬S k->w'.heap[k]? =w.heap[k]?
theorem FrS.refl(S:Nat->Prop)(w:World):FrS S w w:=⟨rfl,rfl,rfl,AT _,λ_ _ _=>rfl⟩
theorem FrS.trans{S:Nat->Prop}{a b c:World}(h:FrS S a b)(k:FrS S b c):FrS S a c:=
 ⟨k.os.trans h.os,k.tape.trans h.tape,k.output.trans h.output,BD h.size k.size,λi hi' ho=>(k.block i (Bo hi' h.size) ho).trans (h.block i hi' ho)⟩
theorem FrS.mono{S T:Nat->Prop}{a b:World}(h:FrS S a b)(hs:∀g,S g->T g):FrS T a b:=⟨h.os,h.tape,h.output,h.size,λi hi ho=>h.block i hi (λhS=>ho (hs i hS))⟩
theorem FrS.grown{S:Nat->Prop}{a b:World}{row:Option Nat}(h:a.grownBy b row)(hr:∀g,row=some g->S g):FrS S a b:=
 ⟨h.os,h.tape,h.output,h.size,λi hi' ho=>h.block i hi' (λe=>ho (hr i e.symm))⟩
theorem FrS.below{S:Nat->Prop}{a b:World}(h:Below a.heap.size a b):FrS S a b:=⟨h.os,h.tape,h.output,h.size,λi hi' _=>h.block i hi'⟩
theorem FrS.toBelow{S:Nat->Prop}{a b:World}{B:Nat}(h:FrS S a b)(hB:B<=a.heap.size)(hl:∀g,S g->B<=g):Below B a b:=
 ⟨h.os,h.tape,h.output,h.size,λi hi'=>h.block i (by omega) (λhs=>by have:=hl i hs;omega)⟩
theorem FrS.cell{S:Nat->Prop}{a b:World}(h:FrS S a b){p:Addr}(hp:p.block < a.heap.size)(hn:¬S p.block):b.cell? p=a.cell? p:=BS (h.block _ hp hn)
theorem FrS.own{S:Nat->Prop}{w w':World}{base:Nat}{e:TypeId}{size:Nat}{v:Value}{n:Nat}{xs:List Value}(h:FrS S w w')(ho:w.ownsRow base e size v n xs)
  (hv:∀g,v.ownBlock=some g->¬S g):w'.ownsRow base e size v n xs:=by
 rcases ho.2 with⟨rfl,rfl⟩|⟨g,cap,cur,rfl,hb,hh,r⟩
 ·exact⟨ho.1,.inl ⟨rfl,rfl⟩⟩
 ·refine⟨ho.1,.inr ⟨g,cap,cur,rfl,hb,?_,r⟩⟩
  rw[h.block g (by
   rcases A9 g w.heap.size with h1|h1
   ·exact h1
   ·rw[EU h1]at hh;cases hh) (hv g rfl)]
  exact hh
def Mv(t:TypeId)(w:World)(S:Nat->Prop)(v:Value)(l:zI):Prop:=w.ownsRow 0 t 1 v l.length (l.map (Value.int .i64))∧∀g,v.ownBlock=some g->S g
def Jy(t tl:TypeId)(w:World)(S:Nat->Prop)(v:Value)(ll:List zI):Prop:=
 ∃vs,w.ownsRow 0 tl 1 v ll.length vs∧Own2 t w 0 vs ll∧(∀g,v.ownBlock=some g->S g)∧∀u∈vs,∀g,u.ownBlock=some g->S g
section
variable {t tl:TypeId}{w w':World}{S S':Nat->Prop}{v:Value}{l:zI}{ll:List zI}
theorem Mv.keep(h:Mv t w S v l)(hb:Below w.heap.size w w'):Mv t w' S v l:=⟨Uy h.1 hb,h.2⟩
theorem Mv.fr(h:Mv t w S v l)(hf:FrS S' w w')(hd:∀g,S g->¬S' g):Mv t w' S v l:=⟨hf.own h.1 (λg hg=>hd g (h.2 g hg)),h.2⟩
theorem Mv.rd(h:Mv t w S v l):Ints w v l:=Ints.P9 h.1
theorem Mv.form(h:Mv t w S v l):∃A c,v=.slice A l.length c:=cm h.1
theorem Mv.mono(h:Mv t w S v l)(hs:∀g,S g->S' g):Mv t w S' v l:=⟨h.1,λg hg=>hs g (h.2 g hg)⟩
theorem Jy.keep(h:Jy t tl w S v ll)(hb:Below w.heap.size w w'):Jy t tl w' S v ll:=by
 obtain⟨vs,h1,h2,h3⟩:=h
 exact⟨vs,Uy h1 hb,h2.keep hb,h3⟩
theorem Jy.fr(h:Jy t tl w S v ll)(hf:FrS S' w w')(hd:∀g,S g->¬S' g):Jy t tl w' S v ll:=by
 obtain⟨vs,h1,h2,h3,h4⟩:=h
 exact⟨vs,hf.own h1 (λg hg=>hd g (h3 g hg)),⟨h2.1,λj u l hu hl=>hf.own (h2.2.1 j u l hu hl) (λg hg=>hd g (h4 u (BU hu) g hg)),h2.2.2⟩,h3,h4⟩
theorem Jy.rd(h:Jy t tl w S v ll):PN w v ll:=by
 obtain⟨vs,h1,h2,_⟩:=h
 exact PN.P9 ⟨vs,h1,h2⟩
theorem Jy.form(h:Jy t tl w S v ll):∃A c,v=.slice A ll.length c:=by
 obtain⟨vs,h1,_⟩:=h
 exact cm h1
theorem Jy.mono(h:Jy t tl w S v ll)(hs:∀g,S g->S' g):Jy t tl w S' v ll:=by
 obtain⟨vs,h1,h2,h3,h4⟩:=h
 exact⟨vs,h1,h2,λg hg=>hs g (h3 g hg),λu hu g hg=>hs g (h4 u hu g hg)⟩
theorem Jy.P9{base:Nat}(h:JW t tl w base v ll):Jy t tl w (λg=>base<=g∧g < w.heap.size) v ll:=by
 obtain⟨vs,h1,h2⟩:=h
 exact⟨vs,h1.mono (by omega),h2.mono (by omega),λg hg=>h1.lt g hg,λu hu g hg=>h2.lt u hu g hg⟩
theorem Mv.P9{base:Nat}(h:w.ownsRow base t 1 v l.length (l.map (Value.int .i64))):Mv t w (λg=>base<=g∧g < w.heap.size) v l:=⟨h.mono (by omega),λg hg=>h.lt g hg⟩
end
theorem M2.drop_at{w:World}{size:Nat}{A:Option Addr}{m c:Nat}{news:List Value}(h:M2 w size (.slice A m c) m news):
  news.length=m * size∧(A=none->m=0)∧∀ad,A=some ad->∀j u,news[j]? =some u->w.cell? (ad.add j)=some u:=by
 obtain⟨A',c',he,_,hl,hi⟩:=h
 injection he with h1 _ h2
 subst h1
 refine⟨hl,λh0=>?_,λad had j u hu=>?_⟩
 ·rcases Bv m with hm|hm
  ·exact hm
  ·obtain⟨b,off,hb,_⟩:=hi hm
   rw[h0]at hb;cases hb
 ·rcases Bv m with hm|hm
  ·subst hm
   have:news=[]:=A1 (by simpa using hl)
   subst this
   simp at hu
  ·obtain⟨b,off,hb,hc⟩:=hi hm
   rw[had]at hb
   injection hb with hb
   subst hb
   have:=hc j u hu
   unfold Addr.add
   by_cases hj:j=0
   ·subst hj;simpa using this
   ·simpa[hj]using this
theorem M2.one(w:World)(x:Value)(t:TypeId):M2 (w.alloc (.cells #[x] t)) 1 (.slice (some ⟨w.heap.size,0,none⟩) 1 1) 1 [x]:=by
 refine⟨_,_,rfl,by omega,rfl,λ_=>⟨_,_,rfl,λj u hu=>?_⟩⟩
 have hj:j=0:=by
  rcases Bv j with h0|h0
  ·exact h0
  ·rw[A2 (by simp;omega)]at hu;cases hu
 subst hj
 simp only[B6,Ap]at hu
 subst hu
 rw[cell_of_row _ _ _ _ _ _ (heap_alloc_new w _)]
 rfl
def v8(w:World)(v v':Value):Prop:=∀g,v'.ownBlock=some g->v.ownBlock=some g∨w.heap.size<=g
theorem v8.apart{w:World}{v v' u:Value}(h:v8 w v v')(ha:Apart v u)(hu:∀g,u.ownBlock=some g->g < w.heap.size):Apart v' u:=by
 intro g hg hg'
 rcases h g hg with h1|h1
 ·exact ha g h1 hg'
 ·have:=hu g hg';omega
theorem Apart.far{v u:Value}(ha:Apart v u):u.ownBlock=none∨u.ownBlock≠v.ownBlock:=by
 cases hu:u.ownBlock with
 |none=>exact .inl rfl
 |some g=>exact .inr λe=>ha g e.symm hu
theorem JW.nil(t tl:TypeId)(w:World)(base:Nat):JW t tl w base (.slice none 0 0) []:=⟨[],JF _ _ _ _,Own2.nil _ _ _⟩
end
section
inductive V where
 |int (k:IntKind) (n:Int)
 |bool (b:Bool)
 |str (s:zU)
  |own (e:TypeId) (n:Nat) (cs:List V)
  |dat (n:Nat) (cs:List V)
  |arg (n:Nat) (cs:List V)
  |pin (u:Value) (n:Nat) (cs:List V)
 |agg (cs:List V)
 |tup (cs:List V)
  |box (cs:List V)
  |uni (e:TypeId) (n:Nat) (cs:List V)
  |same (s:Nat)
  |cref (s off:Nat)
  |adr (cs:List V) (off:Nat)
  |gh (us:List Value) (cs:List V)
  |fn (f:FuncId)
  |tok (u:Value)
  |val (s:Nat) (u:Value)
 |undef
def V.Ds:V->Bool
 |.int .. |.bool .. |.str .. |.own .. |.dat .. |.arg .. |.pin .. |.fn .. |.tok .. =>true
 |_=>false
def QS(P:Program)(e:TypeId):Nat:=((P.info? e).map (·.size)).getD 0
def lim:Nat:=1099511627776
theorem Bq{n:Nat}(h:n<=lim):n<=maxLen:=by unfold lim at h;unfold maxLen;omega
section
variable (w:World)(St:Nat->Nat->Prop)
mutual
def Rd:V->Value->Prop
 |.int k n,v=>v=.int k n
 |.bool b,v=>v=.bool b
 |.str s,v=>v=.string ⟨s.toArray⟩∧s.length<=maxLen
 |.own _ n cs,v=>n<=maxLen∧∃A c,v=.slice A n c∧n<=c∧(0 < n->∃b off,A=some ⟨b,off,none⟩∧Dp b off cs)∧(n=0->cs=[])
 |.dat n cs,v=>n<=maxLen∧∃A c,v=.slice A n c∧n<=c∧(0 < n->∃b off,A=some ⟨b,off,none⟩∧Dp b off cs)∧(n=0->cs=[])
 |.pin u n cs,v=>v=u∧n<=maxLen∧∃A c,v=.slice A n c∧n<=c∧(0 < n->∃b off,A=some ⟨b,off,none⟩∧Dp b off cs)∧(n=0->cs=[])
 |.arg n cs,v=>n<=maxLen∧∃A c,v=.slice A n c∧n<=c∧(0 < n->∃b off,A=some ⟨b,off,none⟩∧(cs≠[]->∀o,St b o)∧Dp b off cs)∧(n=0->cs=[])
 |.fn f,v=>v=.func (.func f) #[] #[]
 |.tok u,v=>v=u∧u.oneCell'=true
 |_,_=>False
def Dp(b:Nat):Nat->List V->Prop
 |_,[]=>True
 |off,c::cs=>(St b off∧∃u,w.cell? ⟨b,off,none⟩=some u∧Rd c u)∧Dp b (off+1) cs
end
def Oo:List V->List Value->Prop
 |[],us=>us=[]
 |c::cs,us=>∃u us',us=u::us'∧Rd w St c u∧Oo cs us'
def Y6:V->Value->Prop
 |.agg cs,v=>∃us:List Value,v=.agg us.toArray∧Oo w St cs us
 |c,v=>Rd w St c v
end
def Ext(St:Nat->Nat->Prop)(w w':World):Prop:=∀b o,St b o->w'.cell? ⟨b,o,none⟩=w.cell? ⟨b,o,none⟩
section
variable {w w':World}{St St':Nat->Nat->Prop}
mutual
theorem Rd.mono(hs:∀b o,St b o->St' b o)(he:Ext St w w'):∀(c:V) {v:Value},Rd w St c v->Rd w' St' c v
 |.int _ _,_,h=>h
 |.bool _,_,h=>h
 |.str _,_,h=>h
 |.own _ _ cs,_,⟨hn,A,c,e,hc,h,h0⟩=>⟨hn,A,c,e,hc,λhp=>let⟨b,off,ea,hr⟩:=h hp;⟨b,off,ea,Dp.mono hs he b off cs hr⟩,h0⟩
 |.dat _ cs,_,⟨hn,A,c,e,hc,h,h0⟩=>⟨hn,A,c,e,hc,λhp=>let⟨b,off,ea,hr⟩:=h hp;⟨b,off,ea,Dp.mono hs he b off cs hr⟩,h0⟩
 |.pin _ _ cs,_,⟨hu,hn,A,c,e,hc,h,h0⟩=>⟨hu,hn,A,c,e,hc,λhp=>let⟨b,off,ea,hr⟩:=h hp;⟨b,off,ea,Dp.mono hs he b off cs hr⟩,h0⟩
 |.arg _ cs,_,⟨hn,A,c,e,hc,h,h0⟩=>⟨hn,A,c,e,hc,λhp=>let⟨b,off,ea,hw,hr⟩:=h hp;⟨b,off,ea,λhc o=>hs b o (hw hc o),Dp.mono hs he b off cs hr⟩,h0⟩
 |.agg _,_,h=>h.elim
 |.tup _,_,h=>h.elim
 |.box _,_,h=>h.elim
 |.uni _ _ _,_,h=>h.elim
 |.same _,_,h=>h.elim
 |.val _ _,_,h=>h.elim
 |.cref _ _,_,h=>h.elim
 |.adr _ _,_,h=>h.elim
 |.gh _ _,_,h=>h.elim
 |.fn _,_,h=>h
 |.tok _,_,h=>h
 |.undef,_,h=>h.elim
theorem Dp.mono(hs:∀b o,St b o->St' b o)(he:Ext St w w')(b:Nat):∀(off:Nat) (cs:List V),Dp w St b off cs->Dp w' St' b off cs
 |_,[],_=>trivial
 |off,c::cs,⟨⟨h1,u,hu,hr⟩,h2⟩=>⟨⟨hs b off h1,u,(he b off h1).trans hu,Rd.mono hs he c hr⟩,Dp.mono hs he b (off+1) cs h2⟩
end
theorem Oo.mono(hs:∀b o,St b o->St' b o)(he:Ext St w w'):∀(cs:List V) {us:List Value},Oo w St cs us->Oo w' St' cs us
 |[],_,h=>h
 |c::cs,_,⟨u,us',e,h1,h2⟩=>⟨u,us',e,Rd.mono hs he c h1,Oo.mono hs he cs h2⟩
theorem Y6.mono(hs:∀b o,St b o->St' b o)(he:Ext St w w'):∀(c:V) {v:Value},Y6 w St c v->Y6 w' St' c v
 |.agg cs,_,⟨us,e,h⟩=>⟨us,e,h.mono hs he⟩
 |.int _ _,_,h=>h
 |.bool _,_,h=>h
 |.str _,_,h=>h
 |.own _ _ _,_,h=>Rd.mono hs he _ h
 |.dat _ _,_,h=>Rd.mono hs he _ h
 |.pin _ _ _,_,h=>Rd.mono hs he _ h
 |.arg _ _,_,h=>Rd.mono hs he _ h
 |.tup _,_,h=>h.elim
 |.box _,_,h=>h.elim
 |.uni _ _ _,_,h=>h.elim
 |.same _,_,h=>h.elim
 |.val _ _,_,h=>h.elim
 |.cref _ _,_,h=>h.elim
 |.adr _ _,_,h=>h.elim
 |.gh _ _,_,h=>h.elim
 |.fn _,_,h=>h
 |.tok _,_,h=>h
 |.undef,_,h=>h.elim
theorem Rd.oneCell{c:V}{v:Value}(h:Rd w St c v):v.oneCell'=true:=by
 cases c<;>simp only[Rd]at h
 ·subst h;rfl
 ·subst h;rfl
 ·rw[h.1];rfl
 all_goals first|(rw[h.1];exact h.2)|(subst h;rfl)|(obtain⟨_,A,c,rfl,_⟩:=h;rfl)|(obtain⟨_,_,A,c,e,_⟩:=h;rw[e];rfl)
theorem Rd.Ds{c:V}{v:Value}(h:Rd w St c v):c.Ds=true:=by
 cases c<;>simp only[Rd]at h<;>rfl
theorem Oo.length:∀{cs:List V}{us:List Value},Oo w St cs us->us.length=cs.length
 |[],_,h=>by cases h;rfl
 |_::_,_,⟨_,_,e,_,h⟩=>by rw[e,AQ,AQ,Oo.length h]
theorem Dp.at_{b:Nat}:∀{cs:List V}{off:Nat},Dp w St b off cs->∀(j:Nat) (c:V),cs[j]? =some c->St b (off+j)∧∃u,w.cell? ⟨b,off+j,none⟩=some u∧Rd w St c u
 |[],_,_,j,c,h=>by simp at h
 |d::cs,off,h,0,c,e=>by simp only[B6,Ap]at e;subst e;exact h.1
 |d::cs,off,h,j+1,c,e=>by
  have h2:Dp w St b (off+1) cs:=h.2
  have:=Dp.at_ h2 j c (by simpa using e)
  rw[show off+(j+1)=off+1+j by omega];exact this
theorem Dp.drop{b:Nat}:∀{cs:List V}{off:Nat}(k:Nat),Dp w St b off cs->Dp w St b (off+k) (cs.drop k)
 |[],_,k,_=>by simp[Dp]
 |_::_,_,0,h=>by simpa using h
 |_::cs,off,k+1,h=>by
  have:=Dp.drop (cs:=cs) (off:=off+1) k h.2
  rw[show off+(k+1)=off+1+k by omega];simpa using this
theorem Dp.take{b:Nat}:∀{cs:List V}{off:Nat}(k:Nat),Dp w St b off cs->Dp w St b off (cs.take k)
 |[],_,k,_=>by simp[Dp]
 |_::_,_,0,h=>by simp[Dp]
 |_::cs,off,k+1,h=>by rw[C1];exact⟨h.1,Dp.take (cs:=cs) k h.2⟩
theorem Dp.mk{b:Nat}:∀{cs:List V}{off:Nat},(∀(j:Nat) (c:V),cs[j]? =some c->St b (off+j)∧∃u,w.cell? ⟨b,off+j,none⟩=some u∧Rd w St c u)->Dp w St b off cs
 |[],_,_=>trivial
 |d::cs,off,h=>⟨h 0 d rfl,Dp.mk λj c e=>by
   have:=h (j+1) c (by simpa using e)
   rw[show off+1+j=off+(j+1)by omega];exact this⟩
theorem Dp.list{b:Nat}:∀{cs:List V}{off:Nat},Dp w St b off cs->∃us:List Value,Oo w St cs us∧∀(j:Nat) (u:Value),us[j]? =some u->w.cell? ⟨b,off+j,none⟩=some u
 |[],_,_=>⟨[],rfl,by simp⟩
 |c::cs,off,⟨⟨_,u,hu,hr⟩,h2⟩=>by
  obtain⟨us,h3,h4⟩:=Dp.list h2
  refine⟨u::us,⟨u,us,rfl,hr,h3⟩,λj x hx=>?_⟩
  cases j with
  |zero=>simp only[B6,Ap]at hx;subst hx;exact hu
  |succ j=>rw[show off+(j+1)=off+1+j by omega];exact h4 j x (by simpa using hx)
theorem Oo.get:∀{cs:List V}{us:List Value},Oo w St cs us->∀(j:Nat) (c:V),cs[j]? =some c->∃u,us[j]? =some u∧Rd w St c u
 |[],_,_,j,c,e=>by simp at e
 |_::_,_,⟨u,us',e,h1,h2⟩,0,c,ec=>by simp only[B6,Ap]at ec;subst ec;exact⟨u,by rw[e];rfl,h1⟩
 |_::_,_,⟨u,us',e,h1,h2⟩,j+1,c,ec=>by rw[e];simpa using Oo.get h2 j c (by simpa using ec)
theorem Oo.oneCell:∀{cs:List V}{us:List Value},Oo w St cs us->∀u∈us,u.oneCell'=true
 |[],_,h,u,hu=>by rw[show _=[]from h]at hu;simp at hu
 |c::cs,_,⟨x,us',e,h1,h2⟩,u,hu=>by
  rw[e]at hu
  rcases AB.1 hu with rfl|hu
  ·exact h1.oneCell
  ·exact Oo.oneCell h2 u hu
end
section
variable (P:Program)(w:World)(St:Nat->Nat->Prop)
mutual
def Ow:V->Value->zN->Prop
 |.int k n,v,bs=>bs=[]∧Rd w St (.int k n) v
 |.bool b,v,bs=>bs=[]∧Rd w St (.bool b) v
 |.str s,v,bs=>bs=[]∧Rd w St (.str s) v
 |.dat n cs,v,bs=>bs=[]∧Rd w St (.dat n cs) v
 |.arg n cs,v,bs=>bs=[]∧Rd w St (.arg n cs) v
 |.pin u n cs,v,bs=>bs=[]∧Rd w St (.pin u n cs) v
 |.own e n cs,v,bs=>n<=lim∧∃xs bs',w.ownsRow 0 e (QS P e) v n xs∧A7 cs xs bs'∧bs=v.ownBlock.toList++bs'∧(∀g,v.ownBlock=some g->∀o,St g o↔o < n * QS P e)∧(n=0->cs=[])
 |.agg cs,v,bs=>∃us:List Value,v=.agg us.toArray∧A7 cs us bs
 |.tup cs,v,bs=>∃us:List Value,v=.tuple us.toArray∧Js cs us bs
 |.fn f,v,bs=>bs=[]∧Rd w St (.fn f) v
 |.tok u,v,bs=>bs=[]∧Rd w St (.tok u) v
 |_,_,_=>False
def A7:List V->List Value->zN->Prop
 |[],us,bs=>us=[]∧bs=[]
 |c::cs,us,bs=>∃u us' b1 b2,us=u::us'∧bs=b1++b2∧c.Ds=true∧Ow c u b1∧A7 cs us' b2
def Js:List V->List Value->zN->Prop
 |[],us,bs=>us=[]∧bs=[]
 |c::cs,us,bs=>∃u us' b1 b2,us=u::us'∧bs=b1++b2∧Ow c u b1∧Js cs us' b2
end
end
section
variable {P:Program}{w w':World}{St St':Nat->Nat->Prop}
mutual
theorem Ow.mono(hs:∀b o,St b o->St' b o)(he:Ext St w w'):∀(c:V) {v:Value}{bs:zN},Ow P w St c v bs->(∀g∈bs,w'.heap[g]? =w.heap[g]? ∧∀o,St' g o↔St g o)->Ow P w' St' c v bs
 |.int _ _,_,_,⟨h1,h2⟩,_=>⟨h1,h2⟩
 |.bool _,_,_,⟨h1,h2⟩,_=>⟨h1,h2⟩
 |.str _,_,_,⟨h1,h2⟩,_=>⟨h1,h2⟩
 |.dat _ _,_,_,⟨h1,h2⟩,_=>⟨h1,h2.mono hs he⟩
 |.arg _ _,_,_,⟨h1,h2⟩,_=>⟨h1,h2.mono hs he⟩
 |.pin _ _ _,_,_,⟨h1,h2⟩,_=>⟨h1,h2.mono hs he⟩
 |.own e n cs,v,bs,⟨hn,xs,bs',h1,h2,h3,h4,h5⟩,hb=>by
  refine⟨hn,xs,bs',?_,A7.mono hs he cs h2 (λg hg=>hb g (by rw[h3];exact Ar _ hg)),h3,λg hg o=>?_,h5⟩
  ·refine⟨h1.1,?_⟩
   rcases h1.2 with h|⟨g,cap,cur,rfl,hg,hh,r⟩
   ·exact .inl h
   ·exact .inr ⟨g,cap,cur,rfl,hg,by rw[(hb g (by rw[h3];simp[Value.ownBlock])).1];exact hh,r⟩
  ·rw[(hb g (by rw[h3,hg];simp)).2 o];exact h4 g hg o
 |.agg cs,_,_,⟨us,e,h⟩,hb=>⟨us,e,A7.mono hs he cs h hb⟩
 |.tup cs,_,_,⟨us,e,h⟩,hb=>⟨us,e,Js.mono hs he cs h hb⟩
 |.box _,_,_,h,_=>h.elim
 |.uni _ _ _,_,_,h,_=>h.elim
 |.same _,_,_,h,_=>h.elim
 |.val _ _,_,_,h,_=>h.elim
 |.cref _ _,_,_,h,_=>h.elim
 |.adr _ _,_,_,h,_=>h.elim
 |.gh _ _,_,_,h,_=>h.elim
 |.fn _,_,_,⟨h1,h2⟩,_=>⟨h1,h2⟩
 |.tok _,_,_,⟨h1,h2⟩,_=>⟨h1,h2⟩
 |.undef,_,_,h,_=>h.elim
theorem A7.mono(hs:∀b o,St b o->St' b o)(he:Ext St w w'):∀(cs:List V) {us:List Value}{bs:zN},A7 P w St cs us bs->(∀g∈bs,w'.heap[g]? =w.heap[g]? ∧∀o,St' g o↔St g o)->A7 P w' St' cs us bs
 |[],_,_,h,_=>h
 |c::cs,_,_,⟨u,us',b1,b2,e1,e2,hc,h1,h2⟩,hb=>
  ⟨u,us',b1,b2,e1,e2,hc,Ow.mono hs he c h1 (λg hg=>hb g (by rw[e2];exact Az _ hg)),A7.mono hs he cs h2 (λg hg=>hb g (by rw[e2];exact Ar _ hg))⟩
theorem Js.mono(hs:∀b o,St b o->St' b o)(he:Ext St w w'):∀(cs:List V) {us:List Value}{bs:zN},Js P w St cs us bs->(∀g∈bs,w'.heap[g]? =w.heap[g]? ∧∀o,St' g o↔St g o)->Js P w' St' cs us bs
 |[],_,_,h,_=>h
 |c::cs,_,_,⟨u,us',b1,b2,e1,e2,h1,h2⟩,hb=>
  ⟨u,us',b1,b2,e1,e2,Ow.mono hs he c h1 (λg hg=>hb g (by rw[e2];exact Az _ hg)),Js.mono hs he cs h2 (λg hg=>hb g (by rw[e2];exact Ar _ hg))⟩
end
mutual
theorem Ow.rd:∀(c:V) {v:Value}{bs:zN},Ow P w St c v bs->c.Ds=true->Rd w St c v
 |.int _ _,_,_,h,_=>h.2
 |.bool _,_,_,h,_=>h.2
 |.str _,_,_,h,_=>h.2
 |.dat _ _,_,_,h,_=>h.2
 |.arg _ _,_,_,h,_=>h.2
 |.pin _ _ _,_,_,h,_=>h.2
 |.own e n cs,v,bs,⟨hn,xs,bs',h1,h2,h3,h4,h5⟩,_=>by
  have hl:=h1.1
  rcases h1.2 with⟨rfl,rfl⟩|⟨g,cap,cur,rfl,hg,hh,hc,hm,hsz,hx⟩
  ·exact⟨Bq hn,none,0,rfl,AT _,λh=>absurd h (by omega),h5⟩
  ·refine⟨Bq hn,_,cap,rfl,hc,λ_=>⟨g,0,rfl,?_⟩,h5⟩
   have hst:=h4 g rfl
   have hcell:∀(j:Nat) (u:Value),xs[j]? =some u->St g j∧w.cell? ⟨g,j,none⟩=some u:=by
    intro j u hu
    have hj:j < n * QS P e:=by
     rw[<-hl]
     rcases A9 j xs.length with h|h
     ·exact h
     ·rw[A2 h]at hu;cases hu
    refine⟨(hst j).2 hj,?_⟩
    simp only[World.cell?,hh]
    rw[<-hx,EA,Av hj]at hu
    simpa using hu
   exact A7.sq cs 0 h2 (λj u hu=>by simpa using hcell j u hu)
 |.agg _,_,_,_,h=>by cases h
 |.tup _,_,_,_,h=>by cases h
 |.box _,_,_,h,_=>h.elim
 |.uni _ _ _,_,_,h,_=>h.elim
 |.same _,_,_,h,_=>h.elim
 |.val _ _,_,_,h,_=>h.elim
 |.cref _ _,_,_,h,_=>h.elim
 |.adr _ _,_,_,h,_=>h.elim
 |.gh _ _,_,_,h,_=>h.elim
 |.fn _,_,_,h,_=>h.2
 |.tok _,_,_,h,_=>h.2
 |.undef,_,_,h,_=>h.elim
theorem A7.sq{g:Nat}:∀(cs:List V) (off:Nat) {us:List Value}{bs:zN},A7 P w St cs us bs->(∀(j:Nat) (u:Value),us[j]? =some u->St g (off+j)∧w.cell? ⟨g,off+j,none⟩=some u)->Dp w St g off cs
 |[],_,_,_,_,_=>trivial
 |c::cs,off,_,_,⟨u,us',b1,b2,e1,e2,hc,h1,h2⟩,hu=>by
  have h0:=hu 0 u (by rw[e1];rfl)
  refine⟨⟨by simpa using h0.1,u,by simpa using h0.2,Ow.rd c h1 hc⟩,A7.sq cs (off+1) h2 (λj x hx=>?_)⟩
  have:=hu (j+1) x (by rw[e1];simpa using hx)
  rw[show off+1+j=off+(j+1)by omega];exact this
end
theorem A7.rdL:∀(cs:List V) {us:List Value}{bs:zN},A7 P w St cs us bs->Oo w St cs us
 |[],_,_,h=>h.1
 |_::cs,_,_,⟨u,us',_,_,e1,_,hc,h1,h2⟩=>⟨u,us',e1,Ow.rd _ h1 hc,A7.rdL cs h2⟩
theorem A7.length{cs:List V}{us:List Value}{bs:zN}(h:A7 P w St cs us bs):us.length=cs.length:=(A7.rdL cs h).length
end
def QT:V->V
 |.own _ n cs=>.dat n cs
 |c=>c
def dg2:V->V
 |.agg cs=>.agg (cs.map QT)
 |c=>QT c
def dg:V->V
 |.tup cs=>.tup (cs.map dg2)
 |c=>dg2 c
section
variable {P:Program}{w w':World}{St St':Nat->Nat->Prop}
theorem TH{c:V}(h:c.Ds=true):(QT c).Ds=true:=by cases c<;>first|rfl|exact h
theorem Rd.VU{c:V}{v:Value}(h:Rd w St c v):Rd w St (QT c) v:=by cases c<;>exact h
theorem Ow.VU{c:V}{v:Value}{bs:zN}(h:Ow P w St c v bs)(hc:c.Ds=true):Ow P w St (QT c) v []:=by
 have hr:=(Ow.rd c h hc).VU
 cases c<;>first|exact⟨rfl,hr⟩|cases hc
theorem A7.VU:∀(cs:List V) {us:List Value}{bs:zN},A7 P w St cs us bs->A7 P w St (cs.map QT) us []
 |[],_,_,h=>⟨h.1,rfl⟩
 |c::cs,_,_,⟨u,us',b1,b2,e1,e2,hc,h1,h2⟩=>⟨u,us',[],[],e1,rfl,TH hc,h1.VU hc,A7.VU cs h2⟩
theorem Ow.oI{c:V}{v:Value}{bs:zN}(h:Ow P w St c v bs)(hc:c.Ds=true∨∃cs,c=.agg cs):Ow P w St (dg2 c) v []:=by
 rcases hc with hc|⟨cs,rfl⟩
 ·have:dg2 c=QT c:=by cases c<;>first|rfl|cases hc
  rw[this];exact h.VU hc
 ·obtain⟨us,e,h⟩:=h
  exact⟨us,e,h.VU⟩
def V.isArg:V->Bool
 |.agg _=>true
 |c=>c.Ds
theorem lq{c:V}(h:c.isArg=true):c.Ds=true∨∃cs,c=.agg cs:=by
 cases c<;>first|exact .inl h|exact .inr ⟨_,rfl⟩
theorem Ow.Lq{c:V}{v:Value}{bs:zN}(h:Ow P w St c v bs)(hc:c.isArg=true):Ow P w St (dg2 c) v []:=h.oI (lq hc)
theorem Ow.rda{c:V}{v:Value}{bs:zN}(h:Ow P w St c v bs)(hc:c.isArg=true):Y6 w St c v:=by
 cases c<;>first|exact Ow.rd _ h hc|cases hc|skip
 obtain⟨us,e,h⟩:=h
 exact⟨us,e,h.rdL⟩
theorem Js.oI:∀(cs:List V) {us:List Value}{bs:zN},Js P w St cs us bs->cs.all V.isArg=true->Js P w St (cs.map dg2) us []
 |[],_,_,h,_=>⟨h.1,rfl⟩
 |c::cs,_,_,⟨u,us',b1,b2,e1,e2,h1,h2⟩,hc=>by
  simp only[Bz,Aa]at hc
  exact⟨u,us',[],[],e1,rfl,h1.Lq hc.1,Js.oI cs h2 hc.2⟩
def V.isVal:V->Bool
 |.tup cs=>cs.all V.isArg
 |c=>c.isArg
theorem Ow.deg{c:V}{v:Value}{bs:zN}(h:Ow P w St c v bs)(hc:c.isVal=true):Ow P w St (dg c) v []:=by
 cases c<;>first|exact h.Lq hc|cases hc|skip
 obtain⟨us,e,h⟩:=h
 exact⟨us,e,Js.oI _ h hc⟩
theorem Ow.vL{c:V}{v:Value}(h:Rd w St (QT c) v):Ow P w St (QT c) v []:=by
 cases c<;>first|exact⟨rfl,h⟩|exact h.elim
theorem A7.mf:∀(cs:List V) {us:List Value},Oo w St cs us->A7 P w St (cs.map QT) us []
 |[],_,h=>⟨h,rfl⟩
 |c::cs,_,⟨u,us',e,h1,h2⟩=>⟨u,us',[],[],e,rfl,TH h1.Ds,Ow.vL h1.VU,A7.mf cs h2⟩
end
mutual
def er:V->V
 |.own _ n cs=>.dat n (Mz cs)
 |.dat n cs=>.dat n (Mz cs)
 |.arg n cs=>.dat n (Mz cs)
 |.pin _ n cs=>.dat n (Mz cs)
 |.agg cs=>.agg (Mz cs)
 |.int k n=>.int k n
 |.bool b=>.bool b
 |.str s=>.str s
 |.fn f=>.fn f
 |.tok u=>.tok u
 |_=>.undef
def Mz:List V->List V
 |[]=>[]
 |c::cs=>er c::Mz cs
end
section
variable {P:Program}{w w':World}{St St':Nat->Nat->Prop}
theorem V7{cs:List V}(h:cs=[]):Mz cs=[]:=by subst h;rfl
mutual
theorem Rd.erase:∀(c:V) {v:Value},Rd w St c v->Rd w St (er c) v
 |.int _ _,_,h=>h
 |.bool _,_,h=>h
 |.str _,_,h=>h
 |.own _ _ cs,_,⟨hn,A,c,e,hc,h,h0⟩=>⟨hn,A,c,e,hc,λhp=>let⟨b,off,ea,hr⟩:=h hp;⟨b,off,ea,Dp.erase b off cs hr⟩,λhz=>V7 (h0 hz)⟩
 |.dat _ cs,_,⟨hn,A,c,e,hc,h,h0⟩=>⟨hn,A,c,e,hc,λhp=>let⟨b,off,ea,hr⟩:=h hp;⟨b,off,ea,Dp.erase b off cs hr⟩,λhz=>V7 (h0 hz)⟩
 |.pin _ _ cs,_,⟨_,hn,A,c,e,hc,h,h0⟩=>⟨hn,A,c,e,hc,λhp=>let⟨b,off,ea,hr⟩:=h hp;⟨b,off,ea,Dp.erase b off cs hr⟩,λhz=>V7 (h0 hz)⟩
 |.arg _ cs,_,⟨hn,A,c,e,hc,h,h0⟩=>⟨hn,A,c,e,hc,λhp=>let⟨b,off,ea,_,hr⟩:=h hp;⟨b,off,ea,Dp.erase b off cs hr⟩,λhz=>V7 (h0 hz)⟩
 |.agg _,_,h=>h.elim
 |.tup _,_,h=>h.elim
 |.box _,_,h=>h.elim
 |.uni _ _ _,_,h=>h.elim
 |.same _,_,h=>h.elim
 |.val _ _,_,h=>h.elim
 |.cref _ _,_,h=>h.elim
 |.adr _ _,_,h=>h.elim
 |.gh _ _,_,h=>h.elim
 |.fn _,_,h=>h
 |.tok _,_,h=>h
 |.undef,_,h=>h.elim
theorem Dp.erase(b:Nat):∀(off:Nat) (cs:List V),Dp w St b off cs->Dp w St b off (Mz cs)
 |_,[],_=>trivial
 |off,c::cs,⟨⟨h1,u,hu,hr⟩,h2⟩=>⟨⟨h1,u,hu,Rd.erase c hr⟩,Dp.erase b (off+1) cs h2⟩
end
theorem Oo.erase:∀(cs:List V) {us:List Value},Oo w St cs us->Oo w St (Mz cs) us
 |[],_,h=>h
 |c::cs,_,⟨u,us',e,h1,h2⟩=>⟨u,us',e,Rd.erase c h1,Oo.erase cs h2⟩
theorem Y6.erase{c:V}{v:Value}(h:Y6 w St c v):Y6 w St (er c) v:=by
 cases c<;>first|exact Rd.erase _ h|exact h.elim|skip
 obtain⟨us,e,h⟩:=h
 exact⟨us,e,h.erase⟩
end
end
section
def upd{α:Type}(f:Nat->α)(d:Nat)(x:α):Nat->α:=λs=>if s=d then x else f s
theorem upd_same{α:Type}(f:Nat->α)(d:Nat)(x:α):upd f d x d=x:=by simp[upd]
theorem upd_ne{α:Type}(f:Nat->α){d s:Nat}(x:α)(h:s≠d):upd f d x s=f s:=by simp[upd,h]
abbrev PS:=Nat->V
def tm(a:Act)(s:Nat):Value:=a.tmps.getD s undef
theorem nM(a:Act)(d:Nat)(v:Value)(h:d < a.tmps.size):tm (a.put (some d) v)=upd (tm a) d v:=by
 funext s
 simp only[tm,Act.put,upd]
 by_cases e:s=d
 ·subst e;simp[h]
 ·simp only[At e,C5]
  rw[Array.getElem?_setIfInBounds_ne (by omega)]
theorem size_put(a:Act)(d:Option Tmp)(v:Value):(a.put d v).tmps.size=a.tmps.size:=by cases d<;>simp[Act.put]
theorem WL(a:Act)(d:Option Tmp)(v:Value):(a.put d v).defers=a.defers:=by cases d<;>simp[Act.put]
def T3:Value->Option Nat
 |.pointer (some ⟨g,0,none⟩)=>some g
 |.slice (some ⟨g,0,none⟩) _ _=>some g
 |_=>none
def CS:V->Option (List V)
 |.box cs=>some cs
 |.uni _ _ cs=>some cs
 |_=>none
def Rr(c:V)(cs:List V):V:=match c with
 |.uni e n _=>.uni e n cs
 |_=>.box cs
theorem WF(c:V)(cs:List V):CS (Rr c cs)=some cs:=by cases c<;>rfl
def DI:V->Option Nat
 |.cref b _=>some b
 |.same b=>some b
 |.val b _=>some b
 |_=>none
section
variable (P:Program)(w:World)(St:Nat->Nat->Prop)(t:Nat->Value)
def Cf:V->Value->zN->Prop
 |.undef,_,bs=>bs=[]
 |.box cs,v,bs=>∃g T bs',∃arr:Array Value,v=.pointer (some ⟨g,0,none⟩)∧w.heap[g]? =some (.cells arr T (0,0))∧A7 P w St cs arr.toList bs'∧bs=g::bs'∧∀o,¬St g o
 |.uni e n cs,v,bs=>∃g bs',∃arr:Array Value,v=.slice (some ⟨g,0,none⟩) n n∧w.heap[g]? =some (.cells arr e (0,0))∧A7 P w St cs arr.toList bs'∧bs=g::bs'∧(∀o,¬St g o)∧n<=lim∧cs.length=n * QS P e
 |.same s,v,bs=>bs=[]∧v=t s
 |.val s u,_,bs=>bs=[]∧u=t s
 |.cref s off,v,bs=>bs=[]∧∃g,T3 (t s)=some g∧v=.pointer (some ⟨g,off,none⟩)
 |.adr cs off,v,bs=>bs=[]∧∃b o,v=.pointer (some ⟨b,o,none⟩)∧Dp w St b o (cs.drop off)
 |.int k n,v,bs=>Ow P w St (.int k n) v bs
 |.bool b,v,bs=>Ow P w St (.bool b) v bs
 |.str s,v,bs=>Ow P w St (.str s) v bs
 |.own e n cs,v,bs=>Ow P w St (.own e n cs) v bs
 |.dat n cs,v,bs=>Ow P w St (.dat n cs) v bs
 |.arg n cs,v,bs=>Ow P w St (.arg n cs) v bs
 |.pin u n cs,v,bs=>Ow P w St (.pin u n cs) v bs
 |.gh us cs,_,bs=>A7 P w St cs us bs
 |.agg cs,v,bs=>Ow P w St (.agg cs) v bs
 |.tup cs,v,bs=>Ow P w St (.tup cs) v bs
 |.fn f,v,bs=>Ow P w St (.fn f) v bs
 |.tok u,v,bs=>Ow P w St (.tok u) v bs
end
section
variable {P:Program}{w w':World}{St St':Nat->Nat->Prop}{t t':Nat->Value}
theorem Cf.ow{c:V}{v:Value}{bs:zN}(h:Cf P w St t c v bs)(hc:c.isVal=true):Ow P w St c v bs:=by
 cases c<;>first|exact h|cases hc
theorem Ow.slot{c:V}{v:Value}{bs:zN}(h:Ow P w St c v bs):Cf P w St t c v bs:=by
 cases c<;>first|exact h|exact h.elim
theorem Cf.mono(hs:∀b o,St b o->St' b o)(he:Ext St w w'){c:V}{v:Value}{bs:zN}(h:Cf P w St t c v bs)
  (hb:∀g∈bs,w'.heap[g]? =w.heap[g]? ∧∀o,St' g o↔St g o) (ht:∀b,DI c=some b->t' b=t b):Cf P w' St' t' c v bs:=by
 cases c with
 |undef=>exact h
 |box cs=>
  obtain⟨g,T,bs',arr,e1,e2,h1,rfl,h2⟩:=h
  have hg:=hb g (by simp)
  exact⟨g,T,bs',arr,e1,by rw[hg.1];exact e2,h1.mono hs he _ (λx hx=>hb x (by simp[hx])),rfl,λo ho=>h2 o ((hg.2 o).1 ho)⟩
 |uni e n cs=>
  obtain⟨g,bs',arr,e1,e2,h1,rfl,h2,h3⟩:=h
  have hg:=hb g (by simp)
  exact⟨g,bs',arr,e1,by rw[hg.1];exact e2,h1.mono hs he _ (λx hx=>hb x (by simp[hx])),rfl,λo ho=>h2 o ((hg.2 o).1 ho),h3⟩
 |same s=>obtain⟨e,h1⟩:=h;exact⟨e,by rw[ht s rfl];exact h1⟩
 |val s u=>obtain⟨e,h1⟩:=h;exact⟨e,by rw[ht s rfl];exact h1⟩
 |cref s off=>obtain⟨e,g,h1,h2⟩:=h;exact⟨e,g,by rw[ht s rfl];exact h1,h2⟩
 |adr cs off=>obtain⟨e,b,o,h1,h2⟩:=h;exact⟨e,b,o,h1,Dp.mono hs he b o _ h2⟩
 |int k n=>exact Ow.mono hs he _ h hb
 |bool k=>exact Ow.mono hs he _ h hb
 |str k=>exact Ow.mono hs he _ h hb
 |own e n cs=>exact Ow.mono hs he _ h hb
 |dat n cs=>exact Ow.mono hs he _ h hb
 |arg n cs=>exact Ow.mono hs he _ h hb
 |pin u n cs=>exact Ow.mono hs he _ h hb
 |gh us cs=>exact A7.mono hs he _ h hb
 |agg cs=>exact Ow.mono hs he _ h hb
 |tup cs=>exact Ow.mono hs he _ h hb
 |fn f=>exact Ow.mono hs he _ h hb
 |tok u=>exact Ow.mono hs he _ h hb
end
structure Bs where
 K:Nat->Prop
 pin:List (Nat×Value)
instance:CoeFun Bs (λ_=>Nat->Prop):=⟨Bs.K⟩
def N9:Nat:=1000000
def lays:List (Nat×List (IntKind×Int)):=[(0,[(.i64,1),(.i64,1)])]
def Glb(w:World)(St:Nat->Nat->Prop):Prop:=∀p∈lays,(∀o,St p.1 o)∧∀i x,p.2[i]? =some x->w.cell? ⟨p.1,i,none⟩=some (.int x.1 x.2)
theorem Glb.of{w w':World}{St St':Nat->Nat->Prop}(h:Glb w St)(hS:∀b,(∀o,St b o)->∀o,St' b o)(hc:∀b o,(∀o,St b o)->w'.cell? ⟨b,o,none⟩=w.cell? ⟨b,o,none⟩):Glb w' St':=
 λp hp=>⟨hS _ (h p hp).1,λi x hx=>(hc _ _ (h p hp).1).trans ((h p hp).2 i x hx)⟩
theorem Aak(h:lays=[])(w:World)(St:Nat->Nat->Prop):Glb w St:=λp hp=>by rw[h]at hp;cases hp
structure HSim (P:Program) (nt:Nat) (bx:zN) (base:Bs) (St:Nat->Nat->Prop) (B:Nat->zN) (hand:zN) (σ:PS) (a:Act) (w:World):Prop where
 size:a.tmps.size=nt
 defers:a.defers=[]
 slot:∀s,Cf P w St (tm a) (σ s) (tm a s) (B s)
 boxes:∀s cs,CS (σ s)=some cs->s∈bx
 crefs:∀s b,DI (σ s)=some b->∃cs,CS (σ b)=some cs
 nodup:∀s,(B s).Nodup
 apart:∀s t,s≠t->∀g∈B s,g∉B t
 hnodup:hand.Nodup
 hapart:∀s,∀g∈B s,g∉hand
 range:∀s,∀g∈B s,¬base g∧g < w.heap.size
 hrange:∀g∈hand,¬base g∧g < w.heap.size
 st:∀b o,St b o->b < w.heap.size
 gl:Glb w St
 pin:∀p∈base.pin,tm a p.1=p.2∧p.1∈bx∧N9+p.1∈bx
section
variable {P:Program}{nt:Nat}{base:Bs}{bx:zN}{St St':Nat->Nat->Prop}{B:Nat->zN}{hand:zN}{σ:PS}{a:Act}{w w':World}
theorem HSim.world(h:HSim P nt bx base St B hand σ a w)(hs:∀b o,St b o->St' b o)(he:Ext St w w')(hz:w.heap.size<=w'.heap.size)
  (hb:∀s,∀g∈B s,w'.heap[g]? =w.heap[g]? ∧∀o,St' g o↔St g o) (hst:∀b o,St' b o->b < w'.heap.size):HSim P nt bx base St' B hand σ a w':=
 {h with
  slot:=λs=>(h.slot s).mono hs he (hb s) (λ_ _=>rfl)
  range:=λs g hg=>⟨(h.range s g hg).1,Bo (h.range s g hg).2 hz⟩
  hrange:=λg hg=>⟨(h.hrange g hg).1,Bo (h.hrange g hg).2 hz⟩
  st:=hst
  gl:=h.gl.of (λb hb o=>hs b o (hb o)) (λb o hb=>he b o (hb o))}
theorem HSim.less(h:HSim P nt bx base St B hand σ a w){hand':zN}(hn:hand'.Nodup)(hs:∀g∈hand',g∈hand):HSim P nt bx base St B hand' σ a w:=
 {h with
  hnodup:=hn
  hapart:=λs g hg hm=>h.hapart s g hg (hs g hm)
  hrange:=λg hg=>h.hrange g (hs g hg)}
theorem U2{c:V}(h:c.isVal=true):CS (dg c)=none∧DI (dg c)=none:=by
 cases c<;>first|(constructor<;>rfl)|cases h
theorem Rm{c:V}(h:c.isVal=true):CS c=none∧DI c=none:=by
 cases c<;>first|(constructor<;>rfl)|cases h
theorem HSim.take(h:HSim P nt bx base St B hand σ a w)(s:Nat)(hv:(σ s).isVal=true):
  Ow P w St (σ s) (tm a s) (B s)∧HSim P nt bx base St (upd B s []) (hand++B s) (upd σ s (dg (σ s))) a w:=by
 have ho:=(h.slot s).ow hv
 have hnb:=U2 hv
 refine⟨ho,?_⟩
 have hB:∀q,∀g∈upd B s [] q,q≠s∧g∈B q:=by
  intro q g hg
  by_cases e:q=s
  ·subst e;rw[upd_same]at hg;simp at hg
  ·rw[upd_ne _ _ e]at hg;exact⟨e,hg⟩
 exact
 {h with
  slot:=λq=>by
   by_cases e:q=s
   ·subst e;rw[upd_same,upd_same];exact(ho.deg hv).slot
   ·rw[upd_ne _ _ e,upd_ne _ _ e];exact h.slot q
  boxes:=λq cs e=>by
   by_cases eq:q=s
   ·subst eq;rw[upd_same,hnb.1]at e;cases e
   ·rw[upd_ne _ _ eq]at e;exact h.boxes q cs e
  crefs:=λq b e=>by
   by_cases eq:q=s
   ·subst eq;rw[upd_same,hnb.2]at e;cases e
   ·rw[upd_ne _ _ eq]at e
    obtain⟨cs,hcs⟩:=h.crefs q b e
    refine⟨cs,?_⟩
    rw[upd_ne _ _ (λeb=>by subst eb;rw[(Rm hv).1]at hcs;cases hcs)];exact hcs
  nodup:=λq=>by
   by_cases e:q=s
   ·subst e;rw[upd_same];exact AG
   ·rw[upd_ne _ _ e];exact h.nodup q
  apart:=λq r hqr g hg hg'=>h.apart q r hqr g (hB q g hg).2 (hB r g hg').2
  hnodup:=Aq.2 ⟨h.hnodup,h.nodup s,λx hx y hy e=>by subst e;exact h.hapart s x hy hx⟩
  hapart:=λq g hg hm=>by
   obtain⟨hq,hg⟩:=hB q g hg
   rcases Al.1 hm with hm|hm
   ·exact h.hapart q g hg hm
   ·exact h.apart q s hq g hg hm
  range:=λq g hg=>h.range q g (hB q g hg).2
  hrange:=λg hg=>by
   rcases Al.1 hg with hg|hg
   ·exact h.hrange g hg
   ·exact h.range s g hg}
theorem HSim.put(h:HSim P nt bx base St B hand σ a w){d:Nat}(hd:d < nt)(hx:d∉bx){c:V}{v:Value}{bs:zN}(hc:Cf P w St (tm a) c v bs)
  (hn:bs.Nodup) (hs:∀g∈bs,g∈hand) (hnb:CS c=none) (hcr:∀b,DI c=some b->∃cs,CS (σ b)=some cs):
  HSim P nt bx base St (upd B d bs) [] (upd σ d c) (a.put (some d) v) w:=by
 have ht:=nM a d v (by rw[h.size];exact hd)
 have hbd:∀b cs,CS (σ b)=some cs->b≠d:=λb cs e eb=>hx (eb ▸ h.boxes b cs e)
 have hbox:∀b,(∃cs,CS (σ b)=some cs)->∃cs,CS (upd σ d c b)=some cs:=λb ⟨cs,e⟩=>⟨cs,by rw[upd_ne _ _ (hbd b cs e)];exact e⟩
 refine
 {size:=by rw[size_put];exact h.size
  defers:=by rw[WL];exact h.defers
  slot:=λq=>by
   rw[ht]
   by_cases e:q=d
   ·subst e;rw[upd_same,upd_same,upd_same]
    exact hc.mono (λ_ _ h=>h) (λ_ _ _=>rfl) (λ_ _=>⟨rfl,λ_=>Dx⟩) (λb eb=>upd_ne _ _ (by obtain⟨cs,e⟩:=hcr b eb;exact hbd b cs e))
   ·rw[upd_ne _ _ e,upd_ne _ _ e,upd_ne _ _ e]
    exact(h.slot q).mono (λ_ _ h=>h) (λ_ _ _=>rfl) (λ_ _=>⟨rfl,λ_=>Dx⟩) (λb eb=>upd_ne _ _ (by obtain⟨cs,e⟩:=h.crefs q b eb;exact hbd b cs e))
  boxes:=λq cs e=>by
   by_cases eq:q=d
   ·subst eq;rw[upd_same,hnb]at e;cases e
   ·rw[upd_ne _ _ eq]at e;exact h.boxes q cs e
  crefs:=λq b e=>by
   by_cases eq:q=d
   ·subst eq;rw[upd_same]at e;exact hbox b (hcr b e)
   ·rw[upd_ne _ _ eq]at e;exact hbox b (h.crefs q b e)
  nodup:=λq=>by
   by_cases e:q=d
   ·subst e;rw[upd_same];exact hn
   ·rw[upd_ne _ _ e];exact h.nodup q
  apart:=λq r hqr g hg hg'=>by
   by_cases e:q=d
   ·subst e;rw[upd_same]at hg;rw[upd_ne _ _ (Ne.symm hqr)]at hg';exact h.hapart r g hg' (hs g hg)
   ·rw[upd_ne _ _ e]at hg
    by_cases e':r=d
    ·subst e';rw[upd_same]at hg';exact h.hapart q g hg (hs g hg')
    ·rw[upd_ne _ _ e']at hg';exact h.apart q r hqr g hg hg'
  hnodup:=AG
  hapart:=λ_ _ _=>by simp
  range:=λq g hg=>by
   by_cases e:q=d
   ·subst e;rw[upd_same]at hg;exact h.hrange g (hs g hg)
   ·rw[upd_ne _ _ e]at hg;exact h.range q g hg
  hrange:=by simp
  st:=h.st
  gl:=h.gl
  pin:=λv0 e=>by
   have hp:=h.pin v0 e
   rw[ht,upd_ne _ _ (show v0.1≠d from λe0=>hx (e0 ▸ hp.2.1))];exact hp}
theorem HSim.Xo(h:HSim P nt bx base St B hand σ a w){d:Nat}(hd:d < nt)(hx:d∈bx)(hd0:N9+d∉bx)(hold:CS (σ d)=none){c:V}{v:Value}{bs:zN}(hc:Cf P w St (tm a) c v bs)
  (hn:bs.Nodup) (hs:∀g∈bs,g∈hand) (hrf:DI c=none):HSim P nt bx base St (upd B d bs) [] (upd σ d c) (a.put (some d) v) w:=by
 have ht:=nM a d v (by rw[h.size];exact hd)
 have hbd:∀b cs,CS (σ b)=some cs->b≠d:=λb cs e eb=>by subst eb;rw[hold]at e;cases e
 have hbox:∀b,(∃cs,CS (σ b)=some cs)->∃cs',CS (upd σ d c b)=some cs':=λb ⟨cs',e⟩=>⟨cs',by rw[upd_ne _ _ (hbd b cs' e)];exact e⟩
 refine
 {size:=by rw[size_put];exact h.size
  defers:=by rw[WL];exact h.defers
  slot:=λq=>by
   rw[ht]
   by_cases e:q=d
   ·subst e;rw[upd_same,upd_same,upd_same]
    exact hc.mono (λ_ _ h=>h) (λ_ _ _=>rfl) (λ_ _=>⟨rfl,λ_=>Dx⟩) (λb eb=>by rw[hrf]at eb;cases eb)
   ·rw[upd_ne _ _ e,upd_ne _ _ e,upd_ne _ _ e]
    exact(h.slot q).mono (λ_ _ h=>h) (λ_ _ _=>rfl) (λ_ _=>⟨rfl,λ_=>Dx⟩) (λb eb=>upd_ne _ _ (by obtain⟨cs,e⟩:=h.crefs q b eb;exact hbd b cs e))
  boxes:=λq cs e=>by
   by_cases eq:q=d
   ·subst eq;exact hx
   ·rw[upd_ne _ _ eq]at e;exact h.boxes q cs e
  crefs:=λq b e=>by
   by_cases eq:q=d
   ·subst eq;rw[upd_same,hrf]at e;cases e
   ·rw[upd_ne _ _ eq]at e;exact hbox b (h.crefs q b e)
  nodup:=λq=>by
   by_cases e:q=d
   ·subst e;rw[upd_same];exact hn
   ·rw[upd_ne _ _ e];exact h.nodup q
  apart:=λq r hqr g hg hg'=>by
   by_cases e:q=d
   ·subst e;rw[upd_same]at hg;rw[upd_ne _ _ (Ne.symm hqr)]at hg';exact h.hapart r g hg' (hs g hg)
   ·rw[upd_ne _ _ e]at hg
    by_cases e':r=d
    ·subst e';rw[upd_same]at hg';exact h.hapart q g hg (hs g hg')
    ·rw[upd_ne _ _ e']at hg';exact h.apart q r hqr g hg hg'
  hnodup:=AG
  hapart:=λ_ _ _=>by simp
  range:=λq g hg=>by
   by_cases e:q=d
   ·subst e;rw[upd_same]at hg;exact h.hrange g (hs g hg)
   ·rw[upd_ne _ _ e]at hg;exact h.range q g hg
  hrange:=by simp
  st:=h.st
  gl:=h.gl
  pin:=λv0 e=>by
   have hp:=h.pin v0 e
   rw[ht,upd_ne _ _ (show v0.1≠d from λe0=>hd0 (e0 ▸ hp.2.2))];exact hp}
theorem HSim.vF(h:HSim P nt bx base St B hand σ a w){s:Nat}{cs cs':List V}{c':V}(hcs:CS (σ s)=some cs)(hcs':CS c'=some cs'){bs:zN}{hand':zN}(hc:Cf P w St (tm a) c' (tm a s) bs)
  (hn:bs.Nodup) (hs:∀g∈bs,g∈B s∨g∈hand) (hn':hand'.Nodup) (hs':∀g∈hand',g∈B s∨g∈hand) (hap:∀g∈bs,g∉hand'):
  HSim P nt bx base St (upd B s bs) hand' (upd σ s c') a w:=by
 have hrf:DI c'=none:=by cases c'<;>first|rfl|cases hcs'
 have hbox:∀b,(∃cs,CS (σ b)=some cs)->∃cs'',CS (upd σ s c' b)=some cs'':=λb ⟨cs,e⟩=>by
  by_cases eb:b=s
  ·subst eb;exact⟨cs',by rw[upd_same];exact hcs'⟩
  ·exact⟨cs,by rw[upd_ne _ _ eb];exact e⟩
 have hout:∀q,q≠s->∀g∈B q,¬(g∈B s∨g∈hand):=λq hq g hg hm=>by
  rcases hm with hm|hm
  ·exact h.apart q s hq g hg hm
  ·exact h.hapart q g hg hm
 refine
 {h with
  slot:=λq=>by
   by_cases e:q=s
   ·subst e;rw[upd_same,upd_same];exact hc
   ·rw[upd_ne _ _ e,upd_ne _ _ e];exact h.slot q
  boxes:=λq cs e=>by
   by_cases eq:q=s
   ·subst eq;exact h.boxes _ _ hcs
   ·rw[upd_ne _ _ eq]at e;exact h.boxes q cs e
  crefs:=λq b e=>by
   by_cases eq:q=s
   ·subst eq;rw[upd_same,hrf]at e;cases e
   ·rw[upd_ne _ _ eq]at e;exact hbox b (h.crefs q b e)
  nodup:=λq=>by
   by_cases e:q=s
   ·subst e;rw[upd_same];exact hn
   ·rw[upd_ne _ _ e];exact h.nodup q
  apart:=λq r hqr g hg hg'=>by
   by_cases e:q=s
   ·subst e;rw[upd_same]at hg;rw[upd_ne _ _ (Ne.symm hqr)]at hg';exact hout r (Ne.symm hqr) g hg' (hs g hg)
   ·rw[upd_ne _ _ e]at hg
    by_cases e':r=s
    ·subst e';rw[upd_same]at hg';exact hout q e g hg (hs g hg')
    ·rw[upd_ne _ _ e']at hg';exact h.apart q r hqr g hg hg'
  hnodup:=hn'
  hapart:=λq g hg hm=>by
   by_cases e:q=s
   ·subst e;rw[upd_same]at hg;exact hap g hg hm
   ·rw[upd_ne _ _ e]at hg;exact hout q e g hg (hs' g hm)
  range:=λq g hg=>by
   by_cases e:q=s
   ·subst e;rw[upd_same]at hg
    rcases hs g hg with h1|h1
    ·exact h.range _ g h1
    ·exact h.hrange g h1
   ·rw[upd_ne _ _ e]at hg;exact h.range q g hg
  hrange:=λg hg=>by
   rcases hs' g hg with h1|h1
   ·exact h.range _ g h1
   ·exact h.hrange g h1}
theorem HSim.fresh(h:HSim P nt bx base St B hand σ a w){bs:zN}(hn:bs.Nodup)(hr:∀g∈bs,¬base g∧g < w.heap.size)(ho:∀s,∀g∈B s,g∉bs)(hh:∀g∈hand,g∉bs):
  HSim P nt bx base St B (hand++bs) σ a w:=
 {h with
  hnodup:=Aq.2 ⟨h.hnodup,hn,λx hx y hy e=>by subst e;exact hh x hx hy⟩
  hapart:=λs g hg hm=>by
   rcases Al.1 hm with hm|hm
   ·exact h.hapart s g hg hm
   ·exact ho s g hg hm
  hrange:=λg hg=>by
   rcases Al.1 hg with hg|hg
   ·exact h.hrange g hg
   ·exact hr g hg}
end
end
section
inductive TyD where
 |sc (z:V)
 |st (size:Nat) (zero:List V) (fields:List (Nat×Nat))
 |sl (e:TypeId) (es eb:Nat) (ez:List V)
abbrev Tb:=TypeId->Option TyD
def TyD.size:TyD->Nat
 |.sc _=>1
 |.st n _ _=>n
 |.sl .. =>1
def TyD.UU:TyD->Bool
 |.st .. =>true
 |_=>false
def TyD.two:TyD->Bool
 |.st 2 [.int _ _,.int _ _] [(0,1),(1,1)]=>true
 |_=>false
def ZL(P:Program)(zs:List V)(us:List Value):Prop:=∀w St,A7 P w St zs us []
def M1(P:Program)(t:TypeId):TyD->Prop
 |.sc z=>∃i zv d,P.info? t=some i∧i.size=1∧i.zero=some zv∧ZL P [z] [zv]∧P.underlying t=some d∧(match z with|.int k _=>d=.int k|.bool _=>d=.bool|.str _=>d=.string|.tok _=>(∃ps rs v,d=.func ps rs v)|_=>False)
 |.st size zero fields=>∃i arr fs,P.info? t=some i∧i.size=size∧i.zero=some (.agg arr)∧ZL P zero arr.toList∧P.underlying t=some (.struct fs)∧fs.toList.map (λf=>(f.offset,QS P f.type))=fields∧(∀f∈fields,0 < f.2)∧((TyD.st size zero fields).two=true->P.stoodInHeld t=false∧P.eqGuardType P.depth t=false∧∀f∈fs.toList,f.name≠ "_" ∧∃k,P.underlying f.type=some (.int k))
 |.sl e es eb ez=>∃i j zv,P.info? t=some i∧i.size=1∧i.zero=some (.slice none 0 0)∧P.underlying t=some (.slice e)∧P.info? e=some j∧j.zero=some zv∧j.size=es∧j.bytes=eb∧ZL P ez zv.cells.toList∧ez.length=es∧0 < es∧0 < eb∧eb<=128
def IG(P:Program)(tb:Tb):Prop:=∀t d,tb t=some d->M1 P t d
def cV:Value->V
 |.int k n=>.int k n
 |.bool b=>.bool b
 |.string s=>if s.data.toList.length<=lim then .str s.data.toList else .undef
 |.slice none 0 0=>.dat 0 []
 |_=>.undef
def Co(σ:PS):Operand->V
 |.tmp t=>σ t
 |.const v=>cV v
 |.func f=>.fn f
 |_=>.undef
def eq2:List V->List V->Bool
 |[.int _ a,.int _ b],[.int _ c,.int _ d]=>a==c&&b==d
 |_,_=>false
def ry(d:Option TyD):List V->List V->Prop
 |[.int k _,.int l _],[.int k' _,.int l' _]=>k=k'∧l=l'∧d.elim false TyD.two=true
 |_,_=>False
def dh:BinOp->V->V->V
 |.shl,.int k a,.int _ b=>.int k (k.wrap (a * 2 ^ (min b.toNat k.bits)))
 |.shr,.int k a,.int _ b=>.int k (a.fdiv (2 ^ (min b.toNat k.bits)))
 |.add,.int k a,.int _ b=>.int k (k.wrap (a+b))
 |.sub,.int k a,.int _ b=>.int k (k.wrap (a - b))
 |.mul,.int k a,.int _ b=>.int k (k.wrap (a * b))
 |.quo,.int k a,.int _ b=>.int k (k.wrap (a.tdiv b))
 |.rem,.int k a,.int _ b=>.int k (a.tmod b)
 |.and,.int k a,.int _ b=>.int k (k.wrap (BitVec.ofInt k.bits a&&& BitVec.ofInt k.bits b).toNat)
 |.or,.int k a,.int _ b=>.int k (k.wrap (BitVec.ofInt k.bits a ||| BitVec.ofInt k.bits b).toNat)
 |.xor,.int k a,.int _ b=>.int k (k.wrap (BitVec.ofInt k.bits a ^^^ BitVec.ofInt k.bits b).toNat)
 |.andNot,.int k a,.int _ b=>.int k (k.wrap (BitVec.ofInt k.bits a&&& ~~~BitVec.ofInt k.bits b).toNat)
 |.eql,.int _ a,.int _ b=>.bool (a==b)
 |.neq,.int _ a,.int _ b=>.bool (a !=b)
 |.lss,.int _ a,.int _ b=>.bool (decide (a < b))
 |.leq,.int _ a,.int _ b=>.bool (decide (a<=b))
 |.gtr,.int _ a,.int _ b=>.bool (decide (b < a))
 |.geq,.int _ a,.int _ b=>.bool (decide (b<=a))
 |.add,.str s,.str t=>.str (s++t)
 |.eql,.str s,.str t=>.bool (s==t)
 |.neq,.str s,.str t=>.bool (!(s==t))
 |.lss,.str s,.str t=>.bool (Op.bytesLess s t)
 |.leq,.str s,.str t=>.bool (Op.bytesLess s t || s==t)
 |.gtr,.str s,.str t=>.bool (!(Op.bytesLess s t || s==t))
 |.geq,.str s,.str t=>.bool (!Op.bytesLess s t)
 |.eql,.bool a,.bool b=>.bool (a==b)
 |.neq,.bool a,.bool b=>.bool (!(a==b))
 |.eql,.agg a,.agg b=>.bool (eq2 a b)
 |.neq,.agg a,.agg b=>.bool (!eq2 a b)
 |_,_,_=>.undef
def Zf(d:Option TyD):BinOp->V->V->Prop
 |.shl,.int _ _,.int _ b=>0<=b
 |.shr,.int _ _,.int _ b=>0<=b
 |.quo,.int k _,.int k' b=>k=k'∧b≠0
 |.rem,.int k _,.int k' b=>k=k'∧b≠0
 |.add,.str s,.str t=>s.length+t.length<=lim
 |_,.int k _,.int k' _=>k=k'
 |.eql,.str _,.str _=>True
 |.neq,.str _,.str _=>True
 |.lss,.str _,.str _=>True
 |.leq,.str _,.str _=>True
 |.gtr,.str _,.str _=>True
 |.geq,.str _,.str _=>True
 |.eql,.bool _,.bool _=>d=some (.sc (.bool false))
 |.neq,.bool _,.bool _=>d=some (.sc (.bool false))
 |.eql,.agg a,.agg b=>ry d a b
 |.neq,.agg a,.agg b=>ry d a b
 |_,_,_=>False
def unV:UnOp->V->V
 |.not,.bool b=>.bool (!b)
 |.neg,.int k n=>.int k (k.wrap (0 - n))
 |_,_=>.undef
def unC:UnOp->V->Prop
 |.not,.bool _=>True
 |.neg,.int _ _=>True
 |_,_=>False
section
variable {P:Program}{w:World}{St:Nat->Nat->Prop}{t:Nat->Value}
theorem FR{k:IntKind}{n:Int}{v:Value}{bs:zN}(h:Cf P w St t (.int k n) v bs):v=.int k n:=h.2
theorem NM{b:Bool}{v:Value}{bs:zN}(h:Cf P w St t (.bool b) v bs):v=.bool b:=h.2
theorem Og{s:zU}{v:Value}{bs:zN}(h:Cf P w St t (.str s) v bs):v=.string ⟨s.toArray⟩∧s.length<=maxLen:=h.2
theorem NK(k:IntKind)(n:Int):Cf P w St t (.int k n) (.int k n) []:=⟨rfl,rfl⟩
theorem SB(b:Bool):Cf P w St t (.bool b) (.bool b) []:=⟨rfl,rfl⟩
theorem d5{s:zU}(h:s.length<=maxLen):Cf P w St t (.str s) (.string ⟨s.toArray⟩) []:=⟨rfl,rfl,h⟩
theorem dA{ty:TypeId}(hu:P.underlying ty=some .bool)(n:Nat)(x y:Bool):(Op.equalIn (n+1) ty (.bool x) (.bool y)).run P w=.ok (x==y) w:=by
 simp[Op.equalIn,Bp hu]
theorem cY{k l:IntKind}{a b:Int}{v:Value}{bs:zN}(h:Cf P w St t (.agg [.int k a,.int l b]) v bs):v=.agg #[.int k a,.int l b]:=by
 obtain⟨us,rfl,u,us',b1,b2,rfl,_,_,h1,u2,us2,b3,b4,rfl,_,_,h2,h3⟩:=h
 obtain⟨rfl,_⟩:=h3
 rw[h1.2,h2.2]
theorem rz{ty:TypeId}{d:TyD}(hd:M1 P ty d)(h2:d.two=true)(x y:Operand){k l:IntKind}(a b a' b':Int):
  (do eqGuard .eql ty x y (.agg #[.int k a,.int l b]) (.agg #[.int k a',.int l b']);binOp .eql ty (.agg #[.int k a,.int l b]) (.agg #[.int k a',.int l b']):Sem Value).run P w=.ok (.bool (a==a'&&b==b')) w∧
  (do eqGuard .neq ty x y (.agg #[.int k a,.int l b]) (.agg #[.int k a',.int l b']);binOp .neq ty (.agg #[.int k a,.int l b]) (.agg #[.int k a',.int l b']):Sem Value).run P w=.ok (.bool (!(a==a'&&b==b'))) w:=by
 have h2':=h2
 unfold TyD.two at h2'
 split at h2'
 ·obtain⟨i,arr,fs,_,_,_,_,hu,hfs,_,hx⟩:=hd
  obtain⟨hs,hg,hf⟩:=hx h2
  obtain⟨L⟩:=fs
  rcases L with _|⟨f0,_|⟨f1,_|⟨f2,L⟩⟩⟩
  ·simp at hfs
  ·simp at hfs
  rotate_left
  ·simp at hfs
  simp only[AC,DX,C2,B3,and_true]at hfs
  obtain⟨⟨o0,_⟩,o1,_⟩:=hfs
  obtain⟨n0,k0,u0⟩:=hf f0 (by simp)
  obtain⟨n1,k1,u1⟩:=hf f1 (by simp)
  have hF:P.fieldsOf ty= #[f0,f1]:=by unfold Program.fieldsOf;rw[hu]
  have he:(Op.equalIn 10000 ty (.agg #[.int k a,.int l b]) (.agg #[.int k a',.int l b'])).run P w=.ok (a==a'&&b==b') w:=by
   rw[run_equalIn_struct w 9999 ty _ _ (by rw[hF];exact hu) hs,hF]
   have p0:∀(u v:Value),(part f0.type #[u,v] f0.offset).run P w=.ok u w:=λu v=>by rw[o0];simp[part,Go.isAgg,Bp u0]
   have p1:∀(u v:Value),(part f1.type #[u,v] f1.offset).run P w=.ok v w:=λu v=>by rw[o1];simp[part,Go.isAgg,Bp u1]
   have q0:=λx y=>run_equalIn_int (P:=P) w 9998 f0.type k k0 x y u0
   have q1:=λx y=>run_equalIn_int (P:=P) w 9998 f1.type l k1 x y u1
   simp only[Op.eqFields,ne_eq,n0,n1,not_false_eq_true,ER,A6,p0,AM,q0]
   cases a==a' with
   |false=>simp
   |true=>
    simp only[An,Cm,Dz,A6,p1,AM,q1]
    cases b==b'<;>simp
  constructor
  ·rw[A6,run_eqGuard_agg w .eql ty x y _ _ hg,AM,run_eql_struct,he];rfl
  ·rw[A6,run_eqGuard_agg w .neq ty x y _ _ hg,AM,run_neq_struct,he];rfl
 ·cases h2'
theorem oq(op:BinOp)(ty:TypeId)(x y:Operand){c1 c2:V}{v1 v2:Value}{b1 b2:zN}(h1:Cf P w St t c1 v1 b1)(h2:Cf P w St t c2 v2 b2){d:Option TyD}(hd:∀x,d=some x->M1 P ty x)(hc:Zf d op c1 c2):
  ∃v,(do eqGuard op ty x y v1 v2;binOp op ty v1 v2:Sem Value).run P w=.ok v w∧Cf P w St t (dh op c1 c2) v []:=by
 unfold Zf at hc
 split at hc
 case h_1|h_2=>
  obtain rfl:=FR h1;obtain rfl:=FR h2
  exact⟨_,by simp[eqGuard,binOp,Op.shift,Int.not_lt.2 hc],NK _ _⟩
 case h_3|h_4=>
  obtain rfl:=FR h1;obtain rfl:=FR h2
  obtain⟨rfl,hb⟩:=hc
  exact⟨_,by simp[eqGuard,binOp,Op.intDiv,hb],NK _ _⟩
 case h_5 s u=>
  obtain⟨rfl,l1⟩:=Og h1;obtain⟨rfl,l2⟩:=Og h2
  refine⟨.string ⟨(s++u).toArray⟩,?_,d5 (by rw[Aw];exact Bq hc)⟩
  have h0:¬IntKind.i64.max < ((s.length+u.length:Nat):Int):=by
   have:IntKind.i64.max=9223372036854775807:=rfl
   unfold lim at *
   rw[this]
   exact Int.not_lt.2 (by omega)
  have h1:(⟨s.toArray⟩:ByteArray)++⟨u.toArray⟩=⟨(s++u).toArray⟩:=by
   apply Ms;simp
  simp only[eqGuard,binOp,Op.stringOp,ByteArray.size,IP,h1,GT.gt,h0,Dz]
  simp
 case h_6=>
  obtain rfl:=FR h1;obtain rfl:=FR h2
  subst hc
  cases op<;>first
   |(refine⟨_,?_,NK _ _⟩;simp only[eqGuard,binOp,Op.intArith,ne_eq,L5,Dz,A6];rfl)
   |(refine⟨_,?_,NK _ _⟩;simp only[eqGuard,binOp,ne_eq,L5,Dz,A6];rfl)
   |(refine⟨_,?_,SB _⟩;simp only[eqGuard,binOp,Op.intCmp,ne_eq,L5,Dz,A6];rfl)
   |(exfalso;simp_all;done)
 case h_7|h_8|h_9|h_10|h_11|h_12=>
  obtain⟨rfl,l1⟩:=Og h1;obtain⟨rfl,l2⟩:=Og h2
  exact⟨_,by simp[eqGuard,binOp,Op.stringOp,ByteArray.toList_eq],SB _⟩
 case h_13|h_14=>
  obtain rfl:=NM h1;obtain rfl:=NM h2
  refine⟨_,?_,SB _⟩
  obtain⟨_,_,_,_,_,_,_,hu,hz⟩:=hd _ hc
  simp only at hz
  subst hz
  have he:∀x y:Bool,(Op.equal ty (.bool x) (.bool y)).run P w=.ok (x==y) w:=λx y=>dA hu 9999 x y
  simp[eqGuard,binOp,he]
 case h_15|h_16=>
  unfold ry at hc
  split at hc
  case h_2=>exact hc.elim
  rename_i k a l b k' a' l' b'
  obtain⟨rfl,rfl,h2'⟩:=hc
  cases d with
  |none=>cases h2'
  |some d=>
   obtain rfl:=cY h1;obtain rfl:=cY h2
   refine⟨_,?_,SB _⟩
   have:=rz (P:=P) (w:=w) (hd _ rfl) h2' x y (k:=k) (l:=l) a b a' b'
   first|exact this.1|exact this.2
 case h_17=>exact hc.elim
theorem vP(op:UnOp){c:V}{v:Value}{b:zN}(h:Cf P w St t c v b)(hc:unC op c):∃u,(Op.unary op v).run P w=.ok u w∧Cf P w St t (unV op c) u []:=by
 unfold unC at hc
 split at hc
 ·obtain rfl:=NM h;exact⟨_,rfl,SB _⟩
 ·obtain rfl:=FR h;exact⟨_,rfl,NK _ _⟩
 ·exact hc.elim
theorem add_plain(b o j:Nat):(⟨b,o,none⟩:Addr).add j=⟨b,o+j,none⟩:=by
 unfold Addr.add
 split
 ·rename_i h;subst h;rfl
 ·rfl
end
def bR(g:Nat):V:=match lays.lookup g with
 |some l=>.adr (l.map λx=>.int x.1 x.2) 0
 |none=>.undef
theorem lC{g:Nat}{cs:List V}{off:Nat}(h:bR g=.adr cs off):∃l,(g,l)∈lays∧cs=(l.map λx=>.int x.1 x.2)∧off=0:=by
 unfold bR at h
 split at h
 ·rename_i l hl
  injection h with h1 h2
  refine⟨l,?_,h1.symm,h2.symm⟩
  have:∀L:List (Nat×List (IntKind×Int)),L.lookup g=some l->(g,l)∈L:=by
   intro L
   induction L with
   |nil=>intro h;cases h
   |cons p L ih=>
    intro h
    rw[List.lookup_cons]at h
    split at h
    ·rename_i e
     injection h with h
     have e:=Dv e
     subst h;subst e
     exact Bg ..
    ·exact AE _ (ih h)
  exact this _ hl
 ·cases h
theorem Pk{g:Nat}:(∀s o,bR g≠.cref s o)∧(∀u,bR g≠.tok u)∧(∀cs,bR g≠.box cs):=by
 unfold bR
 split<;>exact⟨λ_ _ h=>(by cases h),λ_ h=>(by cases h),λ_ h=>(by cases h)⟩
def KQ(σ:PS):Operand->V
 |.tmp s=>match σ s with
  |.box _=>.cref s 0
  |c=>c
 |.global g=>bR g
 |_=>.undef
def getCells(d:TyD)(cs:List V)(off:Nat):V:=
 match d with
 |.st n _ _=>.agg (((cs.drop off).take n).map QT)
 |_=>match cs[off]? with
  |some c=>QT c
  |none=>.undef
def Uq(d:TyD)(σ:PS):V->V
 |.cref s off=>match CS (σ s)with
  |some cs=>getCells d cs off
  |none=>.undef
 |.adr cs off=>getCells d cs off
 |_=>.undef
def R1(d:TyD)(σ:PS):V->Prop
 |.cref s off=>match CS (σ s)with
  |some cs=>off+d.size<=cs.length
  |none=>False
 |.adr cs off=>off+d.size<=cs.length
 |_=>False
section
variable {P:Program}{w:World}{St:Nat->Nat->Prop}{t:Nat->Value}
theorem M1.isAgg{ty:TypeId}{d:TyD}(h:M1 P ty d):(isAgg ty).run P w=.ok d.UU w:=by
 cases d with
 |sc z=>
  obtain⟨i,zv,d,_,_,_,_,hu,hz⟩:=h
  cases z<;>simp only at hz<;>first|exact hz.elim|(subst hz;simp[Go.isAgg,Bp hu,TyD.UU];done)|(obtain⟨ps,rs,v,rfl⟩:=hz;simp[Go.isAgg,Bp hu,TyD.UU])
 |st n z f=>obtain⟨i,arr,fs,_,_,_,_,hu,_⟩:=h;simp[Go.isAgg,Bp hu,TyD.UU]
 |sl e es eb ez=>obtain⟨i,j,zv,_,_,_,hu,_⟩:=h;simp[Go.isAgg,Bp hu,TyD.UU]
theorem M1.sizeOf{ty:TypeId}{d:TyD}(h:M1 P ty d):(Go.sizeOf ty).run P w=.ok d.size w:=by
 cases d with
 |sc z=>obtain⟨i,zv,d,hi,hs,_⟩:=h;simp[Go.sizeOf,typeInfo,hi,hs,TyD.size]
 |st n z f=>obtain⟨i,arr,fs,hi,hs,_⟩:=h;simp[Go.sizeOf,typeInfo,hi,hs,TyD.size]
 |sl e es eb ez=>obtain⟨i,j,zv,hi,hs,_⟩:=h;simp[Go.sizeOf,typeInfo,hi,hs,TyD.size]
theorem Oo.take:∀{cs:List V}{us:List Value}(n:Nat),Oo w St cs us->Oo w St (cs.take n) (us.take n)
 |[],_,n,h=>by rw[show _=[]from h];simp[Oo]
 |c::cs,_,0,h=>by simp[Oo]
 |c::cs,_,n+1,⟨u,us',e,h1,h2⟩=>by rw[e,C1,C1];exact⟨u,us'.take n,rfl,h1,Oo.take n h2⟩
theorem Oo.drop:∀{cs:List V}{us:List Value}(n:Nat),Oo w St cs us->Oo w St (cs.drop n) (us.drop n)
 |[],_,n,h=>by rw[show _=[]from h];simp[Oo]
 |c::cs,_,0,h=>by simpa using h
 |c::cs,_,n+1,⟨u,us',e,h1,h2⟩=>by rw[e,HL,HL];exact Oo.drop n h2
theorem ZQ{ty:TypeId}{d:TyD}(hd:M1 P ty d){cs:List V}{off:Nat}{us:List Value}{b o:Nat}(hr:Oo w St (cs.drop off) us)(hu:∀(j:Nat) (u:Value),us[j]? =some u->w.cell? ⟨b,o+j,none⟩=some u)(hl:off+d.size<=cs.length)(hp:0 < d.size∨d.UU=true):
  ∃v,(Instr.loadAt ty (.pointer (some ⟨b,o,none⟩))).run P w=.ok v w∧Ow P w St (getCells d cs off) v []:=by
 have hlen:=hr.length
 rw[Bt]at hlen
 cases hag:d.UU with
 |true=>
  cases d with
  |sc z=>cases hag
  |sl e es eb ez=>cases hag
  |st n z f=>
   simp only[TyD.size]at hl
   have ht:=Oo.take n hr
   refine⟨.agg (us.take n).toArray,?_,us.take n,rfl,A7.mf _ ht⟩
   have hr:=GB (P:=P) (w:=w) ⟨b,o,none⟩ (us.take n) (λj v hv=>by
    rw[add_plain]
    rw[EA]at hv
    split at hv
    ·exact hu j v hv
    ·cases hv)
   rw[AJ,Cq (by omega)]at hr
   simp[Instr.loadAt,Instr.sureAddr,loadVar,hd.isAgg,hd.sizeOf,TyD.UU,TyD.size,hr]
 |false=>
  have h1:d.size=1:=by cases d<;>first|rfl|cases hag
  have hlt:off < cs.length:=by omega
  have hc:(cs.drop off)[0]? =some cs[off]:=by simp[hlt]
  obtain⟨u,hu0,hrd⟩:=hr.get 0 _ hc
  have hcell:=hu 0 u hu0
  refine⟨u,?_,?_⟩
  ·have hcell':w.cell? ⟨b,o,none⟩=some u:=by simpa using hcell
   simp[Instr.loadAt,Instr.sureAddr,loadVar,hd.isAgg,hag,hcell']
  ·have:getCells d cs off=QT cs[off]:=by
    cases d<;>first|(simp only[getCells,Ac hlt];done)|cases hag
   rw[this]
   exact Ow.vL hrd.VU
end
section
variable {P:Program}{nt:Nat}{base:Bs}{bx:zN}{St:Nat->Nat->Prop}{B:Nat->zN}{hand:zN}{σ:PS}{a:Act}{w:World}
theorem qY{t:Nat->Value}{c:V}{v:Value}{bs:zN}{cs:List V}(hc:CS c=some cs)(h:Cf P w St t c v bs):
  ∃g T bs',∃arr:Array Value,T3 v=some g∧w.heap[g]? =some (.cells arr T (0,0))∧A7 P w St cs arr.toList bs'∧bs=g::bs'∧∀o,¬St g o:=by
 cases c<;>simp only[CS,Ap,reduceCtorEq]at hc
 ·subst hc
  obtain⟨g,T,bs',arr,rfl,h2,h3,h4,h5⟩:=h
  exact⟨g,T,bs',arr,rfl,h2,h3,h4,h5⟩
 ·subst hc
  obtain⟨g,bs',arr,rfl,h2,h3,h4,h5,_⟩:=h
  exact⟨g,_,bs',arr,rfl,h2,h3,h4,h5⟩
theorem XA{t:Nat->Value}{w':World}{c:V}{v:Value}{bs bs'':zN}{cs cs':List V}{arr arr':Array Value}{T:TypeId}{g:Nat}(hc:CS c=some cs)(h:Cf P w St t c v bs)(hg:T3 v=some g)(hh:w.heap[g]? =some (.cells arr T (0,0)))
  (hh':w'.heap[g]? =some (.cells arr' T (0,0))) (hr:A7 P w' St cs' arr'.toList bs'') (hst:∀o,¬St g o) (hl:cs'.length=cs.length):Cf P w' St t (Rr c cs') v (g::bs''):=by
 cases c<;>simp only[CS,Ap,reduceCtorEq]at hc
 ·subst hc
  obtain⟨g',T',bs',arr0,rfl,h2,h3,h4,h5⟩:=h
  simp only[T3,Ap]at hg
  subst hg
  exact⟨g',T,bs'',arr',rfl,hh',hr,rfl,hst⟩
 ·subst hc
  obtain⟨g',bs',arr0,rfl,h2,h3,h4,h5,h6,h7⟩:=h
  simp only[T3,Ap]at hg
  subst hg
  rw[hh]at h2
  injection h2 with h2
  injection h2 with _ h2
  subst h2
  exact⟨g',bs'',arr',rfl,hh',hr,rfl,hst,h6,hl.trans h7⟩
theorem O4(h:HSim P nt bx base St B hand σ a w){x:Operand}{s off:Nat}{cs:List V}(e:KQ σ x=.cref s off)(hs:CS (σ s)=some cs):
  ∃g T bs',∃arr:Array Value,a.eval x=.pointer (some ⟨g,off,none⟩)∧T3 (tm a s)=some g∧w.heap[g]? =some (.cells arr T (0,0))∧A7 P w St cs arr.toList bs'∧B s=g::bs'∧∀o,¬St g o:=by
 obtain⟨g,T,bs',arr,h1,h2,h3,h4,h5⟩:=qY hs (h.slot s)
 cases x with
 |tmp q=>
  simp only[KQ]at e
  split at e
  ·rename_i cs' hbx
   simp only[V.cref.injEq]at e
   obtain⟨rfl,rfl⟩:=e
   have hq:=h.slot q
   rw[hbx]at hq
   obtain⟨g',_,_,_,e1,_⟩:=hq
   rw[e1]at h1
   simp only[T3,Ap]at h1
   subst h1
   exact⟨g',T,bs',arr,e1,by rw[e1];rfl,h2,h3,h4,h5⟩
  ·have hq:=h.slot q
   rw[e]at hq
   obtain⟨_,g',e1,e2⟩:=hq
   rw[h1]at e1
   injection e1 with e1
   subst e1
   exact⟨g,T,bs',arr,e2,h1,h2,h3,h4,h5⟩
 |const v=>cases e
 |global g=>exact absurd e (Pk.1 _ _)
 |func f=>cases e
theorem Y9(h:HSim P nt bx base St B hand σ a w){x:Operand}{cs:List V}{off:Nat}(e:KQ σ x=.adr cs off):∃b o,a.eval x=.pointer (some ⟨b,o,none⟩)∧Dp w St b o (cs.drop off):=by
 cases x with
 |tmp q=>
  simp only[KQ]at e
  split at e
  ·cases e
  ·have hq:=h.slot q
   rw[e]at hq
   obtain⟨_,b,o,e1,e2⟩:=hq
   exact⟨b,o,e1,e2⟩
 |const v=>cases e
 |global g=>
  obtain⟨l,h1,rfl,rfl⟩:=lC e
  obtain⟨h2,h3⟩:=h.gl _ h1
  refine⟨g,0,rfl,?_⟩
  rw[Fi]
  have key:∀(l:List (IntKind×Int)) (j:Nat),(∀i x,l[i]? =some x->w.cell? ⟨g,j+i,none⟩=some (.int x.1 x.2))->Dp w St g j (l.map λx=>.int x.1 x.2):=by
   intro l
   induction l with
   |nil=>intro j _;exact trivial
   |cons x l ih=>exactλj hj=>⟨⟨h2 j,_,by simpa using hj 0 x rfl,rfl⟩,ih (j+1) λi y hy=>by
     have:=hj (i+1) y (by rw[Ct];exact hy)
     rw[show j+1+i=j+(i+1)by omega];exact this⟩
  exact key l 0 (λi x hx=>by rw[CR];exact h3 i x hx)
 |func f=>cases e
theorem lQ(h:HSim P nt bx base St B hand σ a w){ty:TypeId}{d:TyD}(hd:M1 P ty d){x:Operand}(hc:R1 d σ (KQ σ x)):
  ∃v,(Instr.loadAt ty (a.eval x)).run P w=.ok v w∧Ow P w St (Uq d σ (KQ σ x)) v []:=by
 have hp:0 < d.size∨d.UU=true:=by cases d<;>first|exact .inl (Nat.zero_lt_one)|exact .inr rfl
 cases e:KQ σ x with
 |cref s off=>
  rw[e]at hc
  simp only[R1]at hc
  simp only[Uq]
  split at hc
  ·rename_i cs hs
   obtain⟨g,T,bs',arr,h1,h2,h3,h4,h5,h6⟩:=O4 h e hs
   rw[h1]
   refine ZQ hd (us:=arr.toList.drop off) ((A7.rdL cs h4).drop off) (λj u hu=>?_) hc hp
   rw[DF]at hu
   simpa[World.cell?,h3]using hu
  ·exact hc.elim
 |adr cs off=>
  rw[e]at hc
  simp only[R1]at hc
  simp only[Uq]
  obtain⟨b,o,h1,h2⟩:=Y9 h e
  obtain⟨us,h3,h4⟩:=h2.list
  rw[h1]
  exact ZQ hd h3 h4 hc hp
 |_=>rw[e]at hc;exact hc.elim
def tokF(off:Nat):Value->V
 |.pointer (some ⟨g,o,none⟩)=>.tok (.pointer (some ⟨g,o+off,none⟩))
 |_=>.undef
theorem iC(off:Nat)(u:Value):CS (tokF off u)=none∧DI (tokF off u)=none:=by
 unfold tokF
 split<;>exact⟨rfl,rfl⟩
def pA:Value->Bool
 |.pointer (some ⟨_,_,none⟩)=>true
 |_=>false
def faV(off:Nat):V->V
 |.tok u=>tokF off u
 |.cref s o=>.cref s (o+off)
 |.adr cs o=>.adr cs (o+off)
 |_=>.undef
def faC(σ:PS):V->Prop
 |.cref s _=>∃cs,CS (σ s)=some cs
 |.adr _ _=>True
 |.tok u=>pA u=true
 |_=>False
theorem gf{u:Value}(h:pA u=true):∃g o,u=.pointer (some ⟨g,o,none⟩):=by
 unfold pA at h
 split at h
 ·exact⟨_,_,rfl⟩
 ·cases h
theorem UN(h:HSim P nt bx base St B hand σ a w){x:Operand}{u:Value}(hx:KQ σ x=.tok u):a.eval x=u:=by
 cases x with
 |tmp s=>
  have hs:σ s=.tok u:=by
   unfold KQ at hx
   simp only at hx
   split at hx
   ·cases hx
   ·exact hx
  have:=h.slot s
  rw[hs]at this
  exact this.2.1
 |global g=>exact absurd hx (Pk.2.1 _)
 |_=>cases hx
theorem jc(h:HSim P nt bx base St B hand σ a w){ty:TypeId}{n:Nat}{z:List V}{fs:List (Nat×Nat)}(hd:M1 P ty (.st n z fs)){f off sz:Nat}(hf:fs[f]? =some (off,sz)){x:Operand}(hc:faC σ (KQ σ x)):
  ∃v,(Instr.fieldAt ty (a.eval x) f).run P w=.ok v w∧Cf P w St (tm a) (faV off (KQ σ x)) v []:=by
 obtain⟨i,arr,gs,_,_,_,_,hu,hfs,hpos,_⟩:=hd
 have hg:∃fd,gs[f]? =some fd∧fd.offset=off∧QS P fd.type=sz:=by
  rw[<-hfs,AW]at hf
  obtain⟨fd,h1,h2⟩:=BI.1 hf
  injection h2 with h2 h3
  exact⟨fd,by simpa using h1,h2,h3⟩
 obtain⟨fd,hfd,rfl,hsz⟩:=hg
 have hp:0 < QS P fd.type:=by rw[hsz];exact hpos _ (BU hf)
 obtain⟨j,hj,hj0⟩:∃j,P.info? fd.type=some j∧j.size≠0:=by
  unfold QS at hp
  cases hi:P.info? fd.type with
  |none=>rw[hi]at hp;simp at hp
  |some j=>rw[hi]at hp;exact⟨j,rfl,by simp at hp;omega⟩
 have hrun:∀b o,(Instr.fieldAt ty (.pointer (some ⟨b,o,none⟩)) f).run P w=.ok (.pointer (some ⟨b,o+fd.offset,none⟩)) w:=by
  intro b o
  simp[Instr.fieldAt,Bp hu,hfd,Instr.sureAddr,fieldPlace,Go.sizeOf,typeInfo,hj,hj0,add_plain]
 cases e:KQ σ x with
 |cref s o=>
  rw[e]at hc
  obtain⟨cs,hs⟩:=hc
  obtain⟨g,T,bs',arr',h1,h2,_⟩:=O4 h e hs
  rw[h1]
  exact⟨_,hrun _ _,rfl,g,h2,rfl⟩
 |adr cs o=>
  obtain⟨b,o',h1,h2⟩:=Y9 h e
  rw[h1]
  refine⟨_,hrun _ _,rfl,b,_,rfl,?_⟩
  rw[<-Hi]
  exact h2.drop _
 |tok u=>
  rw[e]at hc
  obtain⟨g,o,rfl⟩:=gf hc
  rw[UN h e]
  exact⟨_,hrun _ _,rfl,rfl,rfl⟩
 |_=>rw[e]at hc;exact hc.elim
theorem im{e:TypeId}{n:Nat}{cs:List V}{v:Value}{bs:zN}{t:Nat->Value}{c:V}(hc:c=.own e n cs∨c=.dat n cs)(h:Cf P w St t c v bs):Rd w St (.dat n cs) v:=by
 rcases hc with rfl|rfl
 ·have:=Ow.rd (.own e n cs) (show Ow P w St (.own e n cs) v bs from h) rfl
  simp only[Rd]at this⊢
  exact this
 ·exact Ow.rd (.dat n cs) (show Ow P w St (.dat n cs) v bs from h) rfl
def J7:V->Option (Nat×List V)
 |.own _ n cs=>some (n,cs)
 |.dat n cs=>some (n,cs)
 |.arg n cs=>some (n,cs)
 |.pin _ n cs=>some (n,cs)
 |_=>none
theorem Kl{t:Nat->Value}{c:V}{v:Value}{bs:zN}{n:Nat}{cs:List V}(hc:J7 c=some (n,cs))(h:Cf P w St t c v bs):Rd w St (.dat n cs) v:=by
 cases c<;>simp only[J7,Ap,B3,reduceCtorEq]at hc
 ·obtain⟨rfl,rfl⟩:=hc;exact im (.inl rfl) h
 ·obtain⟨rfl,rfl⟩:=hc;exact im (e:=0) (.inr rfl) h
 ·obtain⟨rfl,rfl⟩:=hc
  obtain⟨_,hn,A,c,e,hc,h,h0⟩:=h
  exact⟨hn,A,c,e,hc,λhp=>let⟨b,off,ea,_,hr⟩:=h hp;⟨b,off,ea,hr⟩,h0⟩
 ·obtain⟨rfl,rfl⟩:=hc
  exact h.2.2
def OD:V->Option Int
 |.int _ n=>some n
 |_=>none
theorem UK{t:Nat->Value}{c:V}{v:Value}{bs:zN}{i:Int}(hc:OD c=some i)(h:Cf P w St t c v bs):∃k,v=.int k i:=by
 cases c<;>simp only[OD,Ap,reduceCtorEq]at hc
 subst hc;exact⟨_,FR h⟩
def iaV(es:Nat)(x i:V):V:=match J7 x,OD i with
 |some (_,cs),some i=>.adr (cs.drop (i.toNat * es)) 0
 |_,_=>.undef
def iaC(x i:V):Prop:=match J7 x,OD i with
 |some (n,_),some i=>0<=i∧i < n
 |_,_=>False
theorem dP{t:Nat->Value}{ty e:TypeId}{es eb:Nat}{ez:List V}(hd:M1 P ty (.sl e es eb ez)){c d:V}{v u:Value}{b1 b2:zN}(h1:Cf P w St t c v b1)(h2:Cf P w St t d u b2)(hc:iaC c d):
  ∃r,(Instr.indexAt ty v u).run P w=.ok r w∧Cf P w St t (iaV es c d) r []:=by
 obtain⟨i,j,zv,_,_,_,hu,hj,_,hes,_⟩:=hd
 unfold iaC at hc
 split at hc
 ·rename_i n cs ix hs hi
  obtain⟨hn,A,cap,rfl,_,hrow,_⟩:=Kl hs h1
  obtain⟨k,rfl⟩:=UK hi h2
  obtain⟨b,off,rfl,hr⟩:=hrow (by omega)
  simp only[iaV,hs,hi]
  refine⟨.pointer (some ⟨b,off+ix.toNat * es,none⟩),?_,rfl,b,_,rfl,by rw[Fi];exact hr.drop _⟩
  simp[Instr.indexAt,asIntOf,Bp hu,hc,Go.sizeOf,typeInfo,hj,hes,add_plain]
 ·exact hc.elim
end
def jJ(x i:V):V:=match x,OD i with
 |.str s,some i=>match s[i.toNat]? with
  |some b=>.int .u8 b.toNat
  |none=>.undef
 |_,_=>.undef
def jI(x i:V):Prop:=match x,OD i with
 |.str s,some i=>0<=i∧i < s.length
 |_,_=>False
def lenV:V->V
 |.str s=>.int .i64 s.length
 |c=>match J7 c with
  |some (n,_)=>.int .i64 n
  |none=>.undef
def jk(d:Option TyD):V->Prop
 |.str _=>d=some (.sc (.str []))
 |c=>match J7 c,d with
  |some _,some (.sl ..)=>True
  |_,_=>False
def RH(dflt:Int):Option V->Option Int
 |none=>some dflt
 |some c=>OD c
def VN:V->Nat->List V->V
 |.arg _ _,n,cs=>.arg n cs
 |_,n,cs=>.dat n cs
def Rp(d:Option TyD)(x:V)(lo hi:Option V):V:=match d,x with
 |some (.sc _),.str s=>match RH 0 lo,RH s.length hi with
  |some l,some h=>.str ((s.take h.toNat).drop l.toNat)
  |_,_=>.undef
 |some (.sl _ es _ _),x=>match J7 x with
  |some (n,cs)=>match RH 0 lo,RH n hi with
   |some l,some h=>VN x (h.toNat - l.toNat) ((cs.take (h.toNat * es)).drop (l.toNat * es))
   |_,_=>.undef
  |none=>.undef
 |_,_=>.undef
def VM(d:Option TyD)(x:V)(lo hi:Option V):Prop:=match d,x with
 |some (.sc (.str [])),.str s=>match RH 0 lo,RH s.length hi with
  |some l,some h=>0<=l∧l<=h∧h<=s.length
  |_,_=>False
 |some (.sl _ es _ _),x=>match J7 x with
  |some (n,cs)=>match RH 0 lo,RH n hi with
   |some l,some h=>0<=l∧l<=h∧h<=n∧cs.length=n * es
   |_,_=>False
  |none=>False
 |_,_=>False
def fk:V->UInt8
 |.int _ n=>UInt8.ofNat n.toNat
 |_=>0
def xq:V->Bool
 |.int .u8 _=>true
 |_=>false
def Yj(dd:Option TyD)(x:V):V:=match dd,x with
 |some (.sc (.int k _)),.int _ n=>.int k (k.wrap n)
 |some (.sc (.str _)),x=>match J7 x with
  |some (_,cs)=>.str (cs.map fk)
  |none=>.undef
 |_,_=>.undef
def Yi(tb:Tb)(src dst:TypeId)(x:V):Prop:=match tb src,tb dst,x with
 |some _,some (.sc (.int _ _)),.int _ _=>True
 |some (.sl e _ _ _),some (.sc (.str _)),x=>match J7 x,tb e with
  |some (n,cs),some (.sc (.int .u8 _))=>cs.length=n∧cs.all xq=true
  |_,_=>False
 |_,_,_=>False
def mxV(mx:Bool)(x y:V):V:=match x,y with
 |.int k a,.int _ b=>.int k (if mx then(if a < b then b else a)else(if b < a then b else a))
 |_,_=>.undef
def mxC(x y:V):Prop:=match x,y with
 |.int _ _,.int _ _=>True
 |_,_=>False
section
variable {P:Program}{w:World}{St:Nat->Nat->Prop}{t:Nat->Value}
theorem M1.und{ty:TypeId}{d:TyD}(h:M1 P ty d):∃u,P.underlying ty=some u:=by
 cases d with
 |sc z=>obtain⟨i,zv,d,_,_,_,_,hu,hz⟩:=h;exact⟨_,hu⟩
 |st n z f=>obtain⟨i,arr,fs,_,_,_,_,hu,_⟩:=h;exact⟨_,hu⟩
 |sl e es eb ez=>obtain⟨i,j,zv,_,_,_,hu,_⟩:=h;exact⟨_,hu⟩
theorem M1.str{ty:TypeId}{s:zU}(h:M1 P ty (.sc (.str s))):P.underlying ty=some .string:=by
 obtain⟨i,zv,d,_,_,_,_,hu,hz⟩:=h;rw[hu];simp only at hz;rw[hz]
theorem M1.int{ty:TypeId}{k:IntKind}{n:Int}(h:M1 P ty (.sc (.int k n))):P.underlying ty=some (.int k):=by
 obtain⟨i,zv,d,_,_,_,_,hu,hz⟩:=h;rw[hu];simp only at hz;rw[hz]
theorem size_bytes(s:zU):(⟨s.toArray⟩:ByteArray).size=s.length:=by show s.toArray.size=_;simp
theorem X2(s:zU)(i:Nat):(⟨s.toArray⟩:ByteArray)[i]? =s[i]?:=by
 simp only[getElem?,decidableGetElem?]
 by_cases h:i < s.length
 ·have h':i < (⟨s.toArray⟩:ByteArray).size:=by simpa[ByteArray.size]using h
  rw[dif_pos h']
  show some (s.toArray[i]'_)=_
  simp[h]
 ·have h':¬i < (⟨s.toArray⟩:ByteArray).size:=by simpa[ByteArray.size]using h
  rw[dif_neg h']
  simp[h]
theorem qW{ty:TypeId}{s0:zU}(hd:M1 P ty (.sc (.str s0))){c d:V}{v u:Value}{b1 b2:zN}(h1:Cf P w St t c v b1)(h2:Cf P w St t d u b2)(hc:jI c d):
  ∃r,(Instr.index ty v u).run P w=.ok r w∧Cf P w St t (jJ c d) r []:=by
 have hu:=hd.str
 unfold jI at hc
 split at hc
 ·rename_i s i hi
  obtain⟨rfl,_⟩:=Og h1
  obtain⟨k,rfl⟩:=UK hi h2
  have hlt:i.toNat < s.length:=by omega
  have h0:(⟨s.toArray⟩:ByteArray)[i.toNat]? =some s[i.toNat]:=by rw[X2,Ac hlt]
  simp only[jJ,hi,Ac hlt]
  exact⟨_,by simp[Instr.index,asIntOf,Bp hu,hc.1,h0],NK _ _⟩
 ·exact hc.elim
theorem pC{ty:TypeId}{rt:TypeId}{d:Option TyD}(hd:∀x,d=some x->M1 P ty x){c:V}{v:Value}{b1:zN}(h1:Cf P w St t c v b1)(hc:jk d c):
  ∃r,(Builtin.len_ #[ty] rt #[v]).run P w=.ok r w∧Cf P w St t (lenV c) r []:=by
 unfold jk at hc
 split at hc
 ·rename_i s
  obtain⟨rfl,_⟩:=Og h1
  refine⟨.int .i64 s.length,?_,NK _ _⟩
  have hu:=Bp (hd _ hc).str
  simp only[Builtin.len_,A6,List.getElem?_toArray,B6,hu,AM,size_bytes,BA,goInt]
 ·rename_i hns
  cases hsl:J7 c with
  |none=>rw[hsl]at hc;exact hc.elim
  |some z=>
   obtain⟨n,cs⟩:=z
   rw[hsl]at hc
   cases d with
   |none=>exact hc.elim
   |some d=>
    cases d with
    |sc z=>exact hc.elim
    |st n z f=>exact hc.elim
    |sl e es eb ez=>
     obtain⟨_,A,cap,rfl,_⟩:=Kl hsl h1
     obtain⟨i,j,zv,_,_,_,hu,_⟩:=hd _ rfl
     have:lenV c=.int .i64 n:=by
      cases c<;>first|(simp only[J7,Ap,B3]at hsl;simp[lenV,J7,hsl.1];done)|cases hsl
     rw[this]
     exact⟨_,by simp[Builtin.len_,Bp hu,goInt],NK _ _⟩
theorem X0(s:zU)(l h:Nat):(⟨s.toArray⟩:ByteArray).extract l h=⟨((s.take h).drop l).toArray⟩:=by
 apply Ms
 rw[ByteArray.data_extract]
 apply Array.ext'
 rw[Array.toList_extract,List.extract_eq_take_drop,Ly]
def BdR(dflt i:Int)(v:Option Value):Prop:=(v=none∧i=dflt)∨∃k,v=some (.int k i)
theorem eZ{lo:Option V}{vl:Option Value}{l dflt:Int}(hl:RH dflt lo=some l)(hv:∀c,lo=some c->∃v b,vl=some v∧Cf P w St t c v b)(hn:lo=none->vl=none):BdR dflt l vl:=by
 cases lo with
 |none=>simp only[RH,Ap]at hl;exact .inl ⟨hn rfl,hl.symm⟩
 |some c=>
  obtain⟨v,b,e,h⟩:=hv c rfl
  obtain⟨k,rfl⟩:=UK hl h
  exact .inr ⟨k,e⟩
theorem WD(isS:Bool)(len cap:Nat){l h:Int}{vl vh:Option Value}(hl:BdR 0 l vl)(hh:BdR len h vh)(h0:0<=l)(h1:l<=h)(h2:h<=cap):
  (Instr.sliceBounds isS len cap vl vh none).run P w=.ok (l.toNat,h.toNat,cap) w:=by
 rcases hl with⟨rfl,rfl⟩|⟨k,rfl⟩<;>rcases hh with⟨rfl,rfl⟩|⟨k',rfl⟩
 ·simp[Instr.sliceBounds]
 ·simp[Instr.sliceBounds,Instr.sliceBound,asIntOf,show 0<=h by omega,h2]
 ·simp[Instr.sliceBounds,Instr.sliceBound,asIntOf,h0,h1]
 ·simp[Instr.sliceBounds,Instr.sliceBound,asIntOf,show 0<=h by omega,h2,h0]
  intro hx;omega
theorem mu{ty:TypeId}{d:Option TyD}(hd:∀x,d=some x->M1 P ty x){c:V}{v:Value}{b1:zN}(h1:Cf P w St t c v b1){lo hi:Option V}{vl vh:Option Value}
  (hlv:∀c,lo=some c->∃v b,vl=some v∧Cf P w St t c v b) (hln:lo=none->vl=none) (hhv:∀c,hi=some c->∃v b,vh=some v∧Cf P w St t c v b) (hhn:hi=none->vh=none) (hc:VM d c lo hi):
  ∃r,(Instr.sliceAt ty v vl vh none).run P w=.ok r w∧Cf P w St t (Rp d c lo hi) r []:=by
 unfold VM at hc
 split at hc
 ·rename_i s
  obtain⟨rfl,hs⟩:=Og h1
  have hu:=Bp (P:=P) (hd _ rfl).str w
  split at hc
  ·rename_i l h hl hh
   have e:=WD (P:=P) (w:=w) false s.length s.length (eZ hl hlv hln) (eZ hh hhv hhn) hc.1 hc.2.1 hc.2.2
   refine⟨.string ⟨((s.take h.toNat).drop l.toNat).toArray⟩,?_,?_⟩
   ·simp[Instr.sliceAt,Instr.slice,hu,size_bytes,e,X0]
   ·simp only[Rp,hl,hh]
    exact d5 (by simp;omega)
  ·exact hc.elim
 ·rename_i e es eb ez
  cases hsl:J7 c with
  |none=>rw[hsl]at hc;exact hc.elim
  |some z=>
   obtain⟨n,cs⟩:=z
   rw[hsl]at hc
   simp only at hc
   split at hc
   ·rename_i l h hl hh
    obtain⟨hn,A,cap,rfl,hcap,hrow,h0⟩:=Kl hsl h1
    obtain⟨i,j,zv,_,_,_,hu,hj,_,hes,_⟩:=hd _ rfl
    have hbd:=WD (P:=P) (w:=w) true n cap (eZ hl hlv hln) (eZ hh hhv hhn) hc.1 hc.2.1 (by omega)
    have hv:Rp (some (.sl e es eb ez)) c lo hi=VN c (h.toNat - l.toNat) ((cs.take (h.toNat * es)).drop (l.toNat * es)):=by
     cases c<;>simp only[J7,Ap,B3,reduceCtorEq]at hsl<;>simp[Rp,J7,hsl,hl,hh]
    rw[hv]
    refine⟨.slice (if cap=l.toNat then A else A.map (·.add (l.toNat * es))) (h.toNat - l.toNat) (cap - l.toNat),?_,?_⟩
    ·simp[Instr.sliceAt,Instr.slice,Bp hu,hbd,Go.sizeOf,typeInfo,hj,hes]
    ·have hdat:Rd w St (.dat (h.toNat - l.toNat) ((cs.take (h.toNat * es)).drop (l.toNat * es))) (.slice (if cap=l.toNat then A else A.map (·.add (l.toNat * es))) (h.toNat - l.toNat) (cap - l.toNat)):=by
      refine⟨BD (by omega) hn,_,_,rfl,by omega,λhp=>?_,λhz=>?_⟩
      ·obtain⟨b,off,rfl,hr⟩:=hrow (by omega)
       refine⟨b,off+l.toNat * es,by rw[At (by omega)];simp[add_plain],?_⟩
       rw[Ly]
       exact(hr.drop _).take _
      ·have:l.toNat=h.toNat:=by omega
       rw[this]
       simp
     have hother:VN c (h.toNat - l.toNat) ((cs.take (h.toNat * es)).drop (l.toNat * es))=.dat (h.toNat - l.toNat) ((cs.take (h.toNat * es)).drop (l.toNat * es))∨c=.arg n cs:=by
      cases c<;>simp only[J7,Ap,B3,reduceCtorEq]at hsl<;>first|exact .inl rfl|(obtain⟨rfl,rfl⟩:=hsl;exact .inr rfl)
     rcases hother with ho|rfl
     ·rw[ho];exact⟨rfl,hdat⟩
     ·obtain⟨_,_,A',cap',e1,_,hrow',_⟩:=h1
      injection e1 with e1 _ _
      subst e1
      refine⟨rfl,BD (by omega) hn,_,_,rfl,by omega,λhp=>?_,λhz=>?_⟩
      ·obtain⟨b,off,rfl,hw,hr⟩:=hrow' (by omega)
       refine⟨b,off+l.toNat * es,by rw[At (by omega)];simp[add_plain],λhne=>hw (λh0=>hne (by rw[h0];simp)),?_⟩
       rw[Ly]
       exact(hr.drop _).take _
      ·have:l.toNat=h.toNat:=by omega
       rw[this]
       simp
   ·exact hc.elim
 ·exact hc.elim
theorem pO{rt:TypeId}{ts:Array TypeId}{c d:V}{v u:Value}{b1 b2:zN}(h1:Cf P w St t c v b1)(h2:Cf P w St t d u b2)(hc:mxC c d):
  ∃r,(Builtin.max_ ts rt #[v,u]).run P w=.ok r w∧Cf P w St t (mxV true c d) r []:=by
 unfold mxC at hc
 split at hc
 ·obtain rfl:=FR h1;obtain rfl:=FR h2
  refine⟨_,?_,NK _ _⟩
  simp[Builtin.max_,Builtin.max2]
 ·exact hc.elim
theorem pP{rt:TypeId}{ts:Array TypeId}{c d:V}{v u:Value}{b1 b2:zN}(h1:Cf P w St t c v b1)(h2:Cf P w St t d u b2)(hc:mxC c d):
  ∃r,(Builtin.min_ ts rt #[v,u]).run P w=.ok r w∧Cf P w St t (mxV false c d) r []:=by
 unfold mxC at hc
 split at hc
 ·obtain rfl:=FR h1;obtain rfl:=FR h2
  refine⟨_,?_,NK _ _⟩
  simp[Builtin.min_,Builtin.min2]
 ·exact hc.elim
theorem foldl_push(ns:zI):∀(s:ByteArray),ns.foldl (λr n=>r.push (UInt8.ofNat n.toNat)) s=⟨(s.data.toList++ns.map λn=>UInt8.ofNat n.toNat).toArray⟩:=by
 induction ns with
 |nil=>intro s;apply Ms;simp
 |cons n ns ih=>
  intro s
  rw[Cz,ih]
  apply Ms
  simp[ByteArray.push]
theorem u8s:∀{cs:List V},cs.all xq=true->∃ns:zI,cs=ns.map (V.int .u8)
 |[],_=>⟨[],rfl⟩
 |c::cs,h=>by
  simp only[Bz,Aa]at h
  obtain⟨ns,rfl⟩:=u8s h.2
  have h1:=h.1
  cases c with
  |int k n=>
   cases k<;>first|exact⟨n::ns,rfl⟩|cases h1
  |_=>cases h1
theorem mQ:∀{ns:zI}{us:List Value},Oo w St (ns.map (V.int .u8)) us->us=ns.map (Value.int .u8)
 |[],_,h=>h
 |n::ns,_,⟨u,us',e,h1,h2⟩=>by rw[e,AC,mQ h2,show u=.int .u8 n from h1]
theorem a8{z:zU}{c:V}{n:Nat}{cs:List V}(h:J7 c=some (n,cs)):Yj (some (.sc (.str z))) c=.str (cs.map fk):=by
 cases c<;>first|(simp only[Yj,h];done)|cases h
theorem km{tb:Tb}(htb:IG P tb){src dst:TypeId}{c:V}{v:Value}{b1:zN}(h1:Cf P w St t c v b1)(hc:Yi tb src dst c):
  ∃r,(convert src dst v).run P w=.ok r w∧Cf P w St t (Yj (tb dst) c) r []:=by
 unfold Yi at hc
 split at hc
 ·rename_i ds k z k' n hs hd
  obtain rfl:=FR h1
  obtain⟨us,hus⟩:=(htb _ _ hs).und
  have hud:=(htb _ _ hd).int
  rw[hd]
  exact⟨_,by simp[convert,Bp hus,Bp hud,Conv.intToInt],NK _ _⟩
 ·rename_i e es eb ez z hs hd
  split at hc
  ·rename_i n cs z' hsl he
   obtain⟨hlen,hall⟩:=hc
   obtain⟨ns,rfl⟩:=u8s hall
   obtain⟨i,j,zv,_,_,_,hus,_⟩:=htb _ _ hs
   have hud:=(htb _ _ hd).str
   have hue:=(htb _ _ he).int
   have hrd:=Kl hsl h1
   obtain⟨hn,A,cap,rfl,hcap,hrow,h0⟩:=hrd
   rw[Ak]at hlen
   rw[hd,a8 hsl]
   have hv:(ns.map (V.int .u8)).map fk=ns.map λn=>UInt8.ofNat n.toNat:=by simp[C0,Function.comp_def,fk]
   rw[hv]
   refine⟨.string ⟨(ns.map λn=>UInt8.ofNat n.toNat).toArray⟩,?_,d5 (by simp;omega)⟩
   have hmain:(Conv.bytesToString (.slice A n cap)).run P w=.ok (.string ⟨(ns.map λn=>UInt8.ofNat n.toNat).toArray⟩) w:=by
    cases A with
    |none=>
     have hz:n=0:=by
      rcases Bv n with h|h
      ·exact h
      ·obtain⟨_,_,h,_⟩:=hrow h;cases h
     have:ns=[]:=A1 (by omega)
     subst this
     rfl
    |some ad=>
     rcases Bv n with h|h
     ·subst h
      have:ns=[]:=A1 hlen
      subst this
      have:=run_bytesToString (P:=P) w ad 0 cap [] (by simp[loadCells,loadCellsFrom])
      rw[this,foldl_push]
      simp
     ·obtain⟨b,off,e,hr⟩:=hrow h
      injection e with e
      subst e
      obtain⟨us,h3,h4⟩:=hr.list
      have:=mQ h3
      subst this
      have hl:=GB (P:=P) (w:=w) ⟨b,off,none⟩ (ns.map (Value.int .u8)) (λj v hv=>by rw[add_plain];exact h4 j v hv)
      rw[Ak,hlen]at hl
      rw[run_bytesToString (P:=P) w _ n cap ns hl,foldl_push]
      simp
   simp only[convert,A6,Bp hus,Bp hud,AM,Bp hue,hmain]
  ·exact hc.elim
 ·exact hc.elim
end
def rr(es:Nat):Value->Option Int->V
 |.slice (some ⟨g,0,none⟩) _ _,some i=>.tok (.pointer (some ⟨g,i.toNat * es,none⟩))
 |_,_=>.undef
def iD:Value->Option Int->Prop
 |.slice (some ⟨_,0,none⟩) n _,some i=>0<=i∧i < n
 |_,_=>False
def iaS(σ:PS)(es:Nat)(x i:V):V:=match x with
 |.tok u=>rr es u (OD i)
 |.same s=>match σ s,OD i with
  |.uni _ _ _,some i=>.cref s (i.toNat * es)
  |_,_=>.undef
 |x=>iaV es x i
def WY(σ:PS)(x i:V):Prop:=match x with
 |.tok u=>iD u (OD i)
 |.same s=>match σ s,OD i with
  |.uni _ n _,some i=>0<=i∧i < n
  |_,_=>False
 |x=>iaC x i
def X5(σ:PS)(x:V):V:=match x with
 |.same s=>match σ s with
  |.uni _ n _=>.int .i64 n
  |_=>.undef
 |x=>lenV x
def Tg(d:Option TyD)(σ:PS)(x:V):Prop:=match x with
 |.same s=>match σ s,d with
  |.uni _ _ _,some (.sl ..)=>True
  |_,_=>False
 |x=>jk d x
def mvV(σ:PS):Operand->V
 |.tmp s=>match σ s with
  |.uni _ _ _=>.same s
  |.same b=>.same b
  |.box _=>.cref s 0
  |.cref b o=>.cref b o
  |c=>dg c
 |x=>dg (Co σ x)
def mvC(σ:PS):Operand->Prop
 |.tmp s=>match σ s with
  |.uni _ _ _=>True
  |.same _=>True
  |.box _=>True
  |.cref _ _=>True
  |c=>c.isVal=true
 |x=>(Co σ x).isVal=true
section
variable {P:Program}{nt:Nat}{base:Bs}{bx:zN}{St:Nat->Nat->Prop}{B:Nat->zN}{hand:zN}{σ:PS}{a:Act}{w:World}
theorem cM(h:HSim P nt bx base St B hand σ a w){s q:Nat}{e:TypeId}{n:Nat}{cs:List V}(hq:σ q=.same s)(hs:σ s=.uni e n cs):∃g,tm a q=.slice (some ⟨g,0,none⟩) n n∧tm a s=.slice (some ⟨g,0,none⟩) n n:=by
 have h1:=h.slot q
 have h2:=h.slot s
 rw[hq]at h1
 rw[hs]at h2
 obtain⟨g,_,_,e1,_⟩:=h2
 exact⟨g,by rw[h1.2,e1],e1⟩
theorem dQ(h:HSim P nt bx base St B hand σ a w){ty e:TypeId}{es eb:Nat}{ez:List V}(hd:M1 P ty (.sl e es eb ez)){s q:Nat}{e':TypeId}{n:Nat}{cs:List V}(hq:σ q=.same s)(hs:σ s=.uni e' n cs){d:V}{i:Int}{u:Value}{b2:zN}(hi:OD d=some i)(h2:Cf P w St (tm a) d u b2)(hc:0<=i∧i < n):
  ∃r,(Instr.indexAt ty (tm a q) u).run P w=.ok r w∧Cf P w St (tm a) (.cref s (i.toNat * es)) r []:=by
 obtain⟨i',j,zv,_,_,_,hu,hj,_,hes,_⟩:=hd
 obtain⟨g,e1,e2⟩:=cM h hq hs
 obtain⟨k,rfl⟩:=UK hi h2
 rw[e1]
 refine⟨.pointer (some ⟨g,0+i.toNat * es,none⟩),?_,rfl,g,by rw[e2];rfl,by rw[CR]⟩
 simp[Instr.indexAt,asIntOf,Bp hu,hc,Go.sizeOf,typeInfo,hj,hes,add_plain]
theorem dR{ty e:TypeId}{es eb:Nat}{ez:List V}(hd:M1 P ty (.sl e es eb ez)){x:Value}{d:V}{u:Value}{b2:zN}{t:Nat->Value}(h2:Cf P w St t d u b2)(hc:iD x (OD d)):
  ∃r,(Instr.indexAt ty x u).run P w=.ok r w∧(∃q,rr es x (OD d)=.tok q)∧Cf P w St t (rr es x (OD d)) r []:=by
 obtain⟨i',j,zv,_,_,_,hu,hj,_,hes,_⟩:=hd
 unfold iD at hc
 split at hc
 ·rename_i g n m i hi
  obtain⟨k,rfl⟩:=UK hi h2
  rw[hi]
  refine⟨.pointer (some ⟨g,0+i.toNat * es,none⟩),?_,⟨_,rfl⟩,rfl,by simp,rfl⟩
  simp[Instr.indexAt,asIntOf,Bp hu,hc,Go.sizeOf,typeInfo,hj,hes,add_plain]
 ·exact hc.elim
theorem lD(h:HSim P nt bx base St B hand σ a w){ty rt e:TypeId}{es eb:Nat}{ez:List V}(hd:M1 P ty (.sl e es eb ez)){s q:Nat}{e':TypeId}{n:Nat}{cs:List V}(hq:σ q=.same s)(hs:σ s=.uni e' n cs):
  ∃r,(Builtin.len_ #[ty] rt #[tm a q]).run P w=.ok r w∧Cf P w St (tm a) (.int .i64 n) r []:=by
 obtain⟨i',j,zv,_,_,_,hu,hj,_,hes,_⟩:=hd
 obtain⟨g,e1,e2⟩:=cM h hq hs
 rw[e1]
 exact⟨_,by simp[Builtin.len_,Bp hu,goInt],NK _ _⟩
end
end
section
def Ni(σ:PS):Callee->List Operand->V
 |.builtin .len,[x]=>X5 σ (Co σ x)
 |.builtin .max,[x,y]=>mxV true (Co σ x) (Co σ y)
 |.builtin .min,[x,y]=>mxV false (Co σ x) (Co σ y)
 |_,_=>.undef
def Pp(tb:Tb)(σ:PS):Callee->List Operand->List TypeId->Prop
 |.builtin .len,[x],[t]=>Tg (tb t) σ (Co σ x)
 |.builtin .max,[x,y],_=>mxC (Co σ x) (Co σ y)
 |.builtin .min,[x,y],_=>mxC (Co σ x) (Co σ y)
 |_,_,_=>False
def Xm(σ:PS)(a b:Operand):V->V
 |.bool q=>if q then dg (Co σ a)else dg (Co σ b)
 |_=>.undef
def Xl(σ:PS)(a b:Operand):V->Prop
 |.bool q=>if q then(Co σ a).isVal=true else(Co σ b).isVal=true
 |_=>False
def kK(d:Option TyD)(f:Nat)(x:V):V:=match d with
 |some (.st _ _ fs)=>match fs[f]? with
  |some (off,_)=>faV off x
  |none=>.undef
 |_=>.undef
def bg(d:Option TyD)(f:Nat)(σ:PS)(x:V):Prop:=match d with
 |some (.st _ _ fs)=>match fs[f]? with
  |some _=>faC σ x
  |none=>False
 |_=>False
def dO(d:Option TyD)(σ:PS)(x i:V):V:=match d with
 |some (.sl _ es _ _)=>iaS σ es x i
 |_=>.undef
def dM(d:Option TyD)(σ:PS)(x i:V):Prop:=match d with
 |some (.sl ..)=>WY σ x i
 |_=>False
def Q2(d:Option TyD)(σ:PS)(x:V):V:=match d with
 |some d=>Uq d σ x
 |none=>.undef
def Q1(d:Option TyD)(σ:PS)(x:V):Prop:=match d with
 |some d=>R1 d σ x
 |none=>False
def pv(tb:Tb)(σ:PS):Op->V
 |.move x=>mvV σ x
 |.pick c a b=>Xm σ a b (Co σ c)
 |.binOp op _ x y _=>dh op (Co σ x) (Co σ y)
 |.unOp op _ x=>unV op (Co σ x)
 |.convert _ d x=>Yj (tb d) (Co σ x)
 |.load t x=>Q2 (tb t) σ (KQ σ x)
 |.nilCheck x=>KQ σ x
 |.fieldAddr t x f=>kK (tb t) f (KQ σ x)
 |.indexAddr t x i=>dO (tb t) σ (Co σ x) (Co σ i)
 |.index _ x i=>jJ (Co σ x) (Co σ i)
 |.slice t x lo hi none=>Rp (tb t) (Co σ x) (lo.map (Co σ)) (hi.map (Co σ))
 |.call c=>Ni σ c.callee c.args.toList
 |_=>.undef
def pc(tb:Tb)(σ:PS):Op->Prop
 |.move x=>mvC σ x
 |.pick c a b=>Xl σ a b (Co σ c)
 |.binOp op t x y _=>Zf (tb t) op (Co σ x) (Co σ y)
 |.unOp op _ x=>unC op (Co σ x)
 |.convert s d x=>Yi tb s d (Co σ x)
 |.load t x=>Q1 (tb t) σ (KQ σ x)
 |.nilCheck x=>faC σ (KQ σ x)
 |.fieldAddr t x f=>bg (tb t) f σ (KQ σ x)
 |.indexAddr t x i=>dM (tb t) σ (Co σ x) (Co σ i)
 |.index t x i=>tb t=some (.sc (.str []))∧jI (Co σ x) (Co σ i)
 |.slice t x lo hi none=>VM (tb t) (Co σ x) (lo.map (Co σ)) (hi.map (Co σ))
 |.call c=>Pp tb σ c.callee c.args.toList c.argTypes.toList
 |_=>False
section
variable {P:Program}{nt:Nat}{base:Bs}{bx:zN}{St:Nat->Nat->Prop}{B:Nat->zN}{hand:zN}{σ:PS}{a:Act}{w:World}
theorem Zk(v:Value):Cf P w St (tm a) (cV v) v []:=by
 unfold cV
 split
 ·exact NK _ _
 ·exact SB _
 ·split
  ·rename_i s h;exact⟨rfl,by cases s;simp,Bq h⟩
  ·rfl
 ·exact⟨rfl,CB _,none,0,rfl,AT _,λh=>absurd h (by omega),λ_=>rfl⟩
 ·rfl
theorem Ld(h:HSim P nt bx base St B hand σ a w)(x:Operand):∃b,Cf P w St (tm a) (Co σ x) (a.eval x) b:=by
 cases x with
 |tmp s=>exact⟨_,h.slot s⟩
 |const v=>exact⟨[],Zk v⟩
 |global g=>exact⟨[],rfl⟩
 |func f=>exact⟨[],rfl,rfl⟩
theorem Ow.Do{c:V}{v:Value}{bs:zN}(h:Ow P w St c v bs):CS c=none∧DI c=none:=by
 cases c<;>first|exact⟨rfl,rfl⟩|exact h.elim
theorem Ow.Oa{c:V}{v:Value}{bs:zN}(h:Ow P w St c v bs){p:Nat->Prop}:∀b,DI c=some b->p b:=λb e=>by rw[h.Do.2]at e;cases e
def Gives(P:Program)(w:World)(St:Nat->Nat->Prop)(σ:PS)(t:Nat->Value)(c:V)(v:Value)(bs:zN):Prop:=
 Cf P w St t c v bs∧CS c=none∧∀b,DI c=some b->∃cs,CS (σ b)=some cs
theorem Gives.ow{t:Nat->Value}{c:V}{v:Value}{bs:zN}(h:Ow P w St c v bs):Gives P w St σ t c v bs:=⟨h.slot,h.Do.1,h.Oa⟩
theorem Gives.of{t:Nat->Value}{c:V}{v:Value}{bs:zN}(h:Cf P w St t c v bs)(hc:c.isVal=true):Gives P w St σ t c v bs:=.ow (h.ow hc)
theorem j5{op:BinOp}{d:Option TyD}{c1 c2:V}(h:Zf d op c1 c2):(dh op c1 c2).isVal=true:=by
 unfold Zf at h
 split at h<;>first|rfl|exact h.elim|skip
 cases op<;>first|rfl|(exfalso;simp_all;done)
theorem rA{op:UnOp}{c:V}(h:unC op c):(unV op c).isVal=true:=by
 unfold unC at h
 split at h<;>first|rfl|exact h.elim
theorem jD{d:Option TyD}{c:V}{lo hi:Option V}(h:VM d c lo hi):(Rp d c lo hi).isVal=true:=by
 unfold VM at h
 split at h
 ·split at h
  ·rename_i hl hh;simp only[Rp,hl,hh];rfl
  ·exact h.elim
 ·cases hsl:J7 c with
  |none=>rw[hsl]at h;exact h.elim
  |some z=>
   obtain⟨n,cs⟩:=z
   rw[hsl]at h
   simp only at h
   split at h
   ·rename_i l q hl hh
    cases c<;>simp only[J7,Ap,B3,reduceCtorEq]at hsl<;>obtain⟨rfl,rfl⟩:=hsl<;>simp[Rp,VN,J7,hl,hh,V.isVal,V.isArg,V.Ds]
   ·exact h.elim
 ·exact h.elim
theorem lE{d:Option TyD}{c:V}(h:jk d c):(lenV c).isVal=true:=by
 cases c<;>first|rfl|exact h.elim
theorem gF{b:Bool}{c d:V}(h:mxC c d):(mxV b c d).isVal=true:=by
 unfold mxC at h
 split at h<;>first|rfl|exact h.elim
theorem pure_run{tb:Tb}(htb:IG P tb)(h:HSim P nt bx base St B hand σ a w)(o:Oper)(hc:pc tb σ o.op):
  ∃v,(execOp a.eval o).run P w=.ok (.value v) w∧Gives P w St σ (tm a) (pv tb σ o.op) v []:=by
 cases ho:o.op with
 |move x=>
  rw[ho]at hc
  obtain⟨b,hx⟩:=Ld h x
  refine⟨a.eval x,by simp[execOp,ho],?_⟩
  have hval:(Co σ x).isVal=true->Gives P w St σ (tm a) (dg (Co σ x)) (a.eval x) []:=λhc=>.ow ((hx.ow hc).deg hc)
  simp only[pc,pv]at *
  cases x with
  |tmp s=>
   cases hs:σ s with
   |uni e n cs=>
    simp only[mvV,hs]
    exact⟨⟨rfl,rfl⟩,rfl,λb e=>by simp only[DI,Ap]at e;subst e;exact⟨cs,by rw[hs];rfl⟩⟩
   |same q=>
    simp only[mvV,hs]
    have h1:=h.slot s
    rw[hs]at h1
    exact⟨⟨rfl,h1.2⟩,rfl,λb e=>h.crefs s b (by rw[hs];exact e)⟩
   |box cs=>
    simp only[mvV,hs]
    have h1:=h.slot s
    rw[hs]at h1
    obtain⟨g,T,bs',arr,e1,_⟩:=h1
    exact⟨⟨rfl,g,by rw[e1];rfl,e1⟩,rfl,λb e=>by simp only[DI,Ap]at e;subst e;exact⟨cs,by rw[hs];rfl⟩⟩
   |cref q o'=>
    simp only[mvV,hs]
    have h1:=h.slot s
    rw[hs]at h1
    exact⟨⟨rfl,h1.2⟩,rfl,λb e=>h.crefs s b (by rw[hs];exact e)⟩
   |_=>
    simp only[mvV,mvC,hs]at hc⊢
    have:=hval (by show(σ s).isVal=true;rw[hs];exact hc)
    rw[show Co σ (.tmp s)=σ s from rfl,hs]at this
    exact this
  |const v=>exact hval hc
  |global g=>exact hval hc
  |func f=>exact hval hc
 |pick c x y=>
  rw[ho]at hc
  simp only[pc,pv]at *
  obtain⟨b,hcc⟩:=Ld h c
  obtain⟨b1,hx⟩:=Ld h x
  obtain⟨b2,hy⟩:=Ld h y
  cases hq:Co σ c with
  |bool q=>
   rw[hq]at hc hcc
   have e:=NM hcc
   cases q with
   |true=>exact⟨a.eval x,by simp[execOp,ho,e,asBool],.ow ((hx.ow hc).deg hc)⟩
   |false=>exact⟨a.eval y,by simp[execOp,ho,e,asBool],.ow ((hy.ow hc).deg hc)⟩
  |_=>rw[hq]at hc;exact hc.elim
 |binOp op t x y t'=>
  rw[ho]at hc
  obtain⟨b1,hx⟩:=Ld h x
  obtain⟨b2,hy⟩:=Ld h y
  obtain⟨v,hr,hv⟩:=oq (ty:=t) (x:=x) (y:=y) op hx hy (λd e=>htb _ _ e) hc
  refine⟨v,?_,.of hv (j5 hc)⟩
  simp only[execOp,ho,A6,hr,AM,BA]
 |unOp op t x=>
  rw[ho]at hc
  obtain⟨b1,hx⟩:=Ld h x
  obtain⟨v,hr,hv⟩:=vP op hx hc
  refine⟨v,?_,.of hv (rA hc)⟩
  simp only[execOp,ho,A6,hr,AM,BA]
 |convert s d x=>
  rw[ho]at hc
  obtain⟨b1,hx⟩:=Ld h x
  obtain⟨v,hr,hv⟩:=km htb hx hc
  refine⟨v,?_,.of hv ?_⟩
  ·simp only[execOp,ho,A6,hr,AM,BA]
  ·simp only[pc,pv,Yi]at hc⊢
   split at hc
   ·rename_i hs hd hx;rw[hd,hx];rfl
   ·rename_i hs hd
    split at hc
    ·rename_i hsl _;rw[hd,a8 hsl];rfl
    ·exact hc.elim
   ·exact hc.elim
 |load t x=>
  rw[ho]at hc
  simp only[pc,pv]at *
  cases ht:tb t with
  |none=>rw[ht]at hc;exact hc.elim
  |some d=>
   rw[ht]at hc
   obtain⟨v,hr,hv⟩:=lQ h (htb _ _ ht) (x:=x) hc
   refine⟨v,?_,.ow hv⟩
   simp only[execOp,ho,A6,hr,AM,BA]
 |nilCheck x=>
  rw[ho]at hc
  simp only[pc,pv]at *
  cases e:KQ σ x with
  |cref s o'=>
   rw[e]at hc
   obtain⟨cs,hs⟩:=hc
   obtain⟨g,T,bs',arr',h1,h2,_⟩:=O4 h e hs
   refine⟨.pointer (some ⟨g,o',none⟩),?_,⟨rfl,g,h2,rfl⟩,rfl,λb e=>?_⟩
   ·simp only[execOp,ho,h1];rfl
   ·simp only[DI,Ap]at e;subst e;exact⟨cs,hs⟩
  |adr cs o'=>
   obtain⟨b,o2,h1,h2⟩:=Y9 h e
   refine⟨.pointer (some ⟨b,o2,none⟩),?_,⟨rfl,b,o2,rfl,h2⟩,rfl,λb e=>by cases e⟩
   simp only[execOp,ho,h1];rfl
  |tok u=>
   rw[e]at hc
   obtain⟨g,o2,rfl⟩:=gf hc
   have h1:=UN h e
   refine⟨.pointer (some ⟨g,o2,none⟩),?_,⟨rfl,rfl,rfl⟩,rfl,λb e=>by cases e⟩
   simp only[execOp,ho,h1];rfl
  |_=>rw[e]at hc;exact hc.elim
 |fieldAddr t x f=>
  rw[ho]at hc
  simp only[pc,pv]at *
  cases ht:tb t with
  |none=>rw[ht]at hc;exact hc.elim
  |some d=>
   rw[ht]at hc
   cases d with
   |sc z=>exact hc.elim
   |sl e es eb ez=>exact hc.elim
   |st n z fs=>
    simp only[bg,kK]at *
    cases hf:fs[f]? with
    |none=>rw[hf]at hc;exact hc.elim
    |some q=>
     obtain⟨off,sz⟩:=q
     rw[hf]at hc
     simp only at *
     obtain⟨v,hr,hv⟩:=jc h (htb _ _ ht) hf hc
     refine⟨v,?_,hv,?_,?_⟩
     ·simp only[execOp,ho,A6,hr,AM,BA]
     ·cases hx:KQ σ x with
      |tok u=>exact(iC off u).1
      |_=>rfl
     ·intro b e
      cases hx:KQ σ x with
      |tok u=>rw[hx]at e;simp only[faV,(iC off u).2]at e;cases e
      |cref s o'=>
       rw[hx]at e hc
       simp only[faV,DI,Ap]at e
       subst e;exact hc
      |_=>rw[hx]at e;cases e
 |indexAddr t x i=>
  rw[ho]at hc
  simp only[pc,pv]at *
  obtain⟨b1,hx⟩:=Ld h x
  obtain⟨b2,hi⟩:=Ld h i
  cases ht:tb t with
  |none=>rw[ht]at hc;exact hc.elim
  |some d=>
   rw[ht]at hc
   cases d with
   |sc z=>exact hc.elim
   |st n z fs=>exact hc.elim
   |sl e es eb ez=>
    simp only[dM,dO]at *
    by_cases hsm:∃q,Co σ x=.same q
    ·obtain⟨q,hq⟩:=hsm
     rw[hq]at hc⊢
     simp only[WY,iaS]at hc⊢
     cases x with
     |tmp p=>
      have hp:σ p=.same q:=hq
      split at hc
      ·rename_i e' n cs ix hs hix
       obtain⟨v,hr,hv⟩:=dQ h (htb _ _ ht) hp hs hix hi hc
       refine⟨v,?_,hv,rfl,λb e=>?_⟩
       ·have e1:a.eval (.tmp p)=tm a p:=rfl
        simp only[execOp,ho,A6,e1,hr,AM,BA]
       ·simp only[DI,Ap]at e;subst e;exact⟨cs,by rw[hs];rfl⟩
      ·exact hc.elim
     |const v=>exfalso;simp only[Co,cV]at hq;split at hq<;>(try split at hq)<;>cases hq
     |global g=>cases hq
     |func f=>cases hq
    by_cases htk:∃q,Co σ x=.tok q
    ·obtain⟨q,hq⟩:=htk
     rw[hq]at hc hx⊢
     simp only[WY,iaS]at hc⊢
     obtain⟨v,hr,⟨q',hq'⟩,hv⟩:=dR (htb _ _ ht) hi hc
     rw[hq']at hv⊢
     refine⟨v,?_,hv,rfl,λb e=>by cases e⟩
     have e1:a.eval x=q:=hx.2.1
     simp only[execOp,ho,A6,e1,hr,AM,BA]
    have h1:WY σ (Co σ x) (Co σ i)=iaC (Co σ x) (Co σ i):=by
     cases hx':Co σ x with
     |same q=>exact absurd ⟨q,hx'⟩ hsm
     |tok q=>exact absurd ⟨q,hx'⟩ htk
     |_=>rfl
    have h2:iaS σ es (Co σ x) (Co σ i)=iaV es (Co σ x) (Co σ i):=by
     cases hx':Co σ x with
     |same q=>exact absurd ⟨q,hx'⟩ hsm
     |tok q=>exact absurd ⟨q,hx'⟩ htk
     |_=>rfl
    rw[h1]at hc
    rw[h2]
    obtain⟨v,hr,hv⟩:=dP (htb _ _ ht) hx hi hc
    have hia:∃cs n,iaV es (Co σ x) (Co σ i)=.adr cs n:=by
     unfold iaC at hc
     split at hc
     ·rename_i n cs ix hs hi'
      exact⟨cs.drop (ix.toNat * es),0,by simp only[iaV,hs,hi']⟩
     ·exact hc.elim
    refine⟨v,?_,hv,?_,?_⟩
    ·simp only[execOp,ho,A6,hr,AM,BA]
    ·obtain⟨_,_,e'⟩:=hia;rw[e'];rfl
    ·intro b e;obtain⟨_,_,e'⟩:=hia;rw[e']at e;cases e
 |index t x i=>
  rw[ho]at hc
  simp only[pc,pv]at *
  obtain⟨b1,hx⟩:=Ld h x
  obtain⟨b2,hi⟩:=Ld h i
  obtain⟨v,hr,hv⟩:=qW (htb _ _ hc.1) hx hi hc.2
  refine⟨v,?_,.of hv ?_⟩
  ·simp only[execOp,ho,A6,hr,AM,BA]
  ·have hc2:=hc.2
   unfold jI at hc2
   split at hc2
   ·rename_i s j hs hi'
    have:j.toNat < s.length:=by omega
    simp only[jJ,hs,hi',Ac this];rfl
   ·exact hc2.elim
 |slice t x lo hi mx=>
  rw[ho]at hc
  cases mx with
  |some m=>exact hc.elim
  |none=>
   simp only[pc,pv]at *
   obtain⟨b1,hx⟩:=Ld h x
   obtain⟨v,hr,hv⟩:=mu (ty:=t) (d:=tb t) (λd e=>htb _ _ e) hx (lo:=lo.map (Co σ)) (hi:=hi.map (Co σ)) (vl:=lo.map a.eval) (vh:=hi.map a.eval)
    (λc e=>by
     obtain⟨y,rfl,rfl⟩:=BI.1 e
     obtain⟨b,hy⟩:=Ld h y
     exact⟨_,b,rfl,hy⟩) (λe=>by cases lo<;>first|rfl|cases e)
    (λc e=>by
     obtain⟨y,rfl,rfl⟩:=BI.1 e
     obtain⟨b,hy⟩:=Ld h y
     exact⟨_,b,rfl,hy⟩) (λe=>by cases hi<;>first|rfl|cases e) hc
   refine⟨v,?_,.of hv ?_⟩
   ·simp only[execOp,ho,A6,Option.map_none,hr,AM,BA]
   ·exact jD hc
 |call c=>
  rw[ho]at hc
  simp only[pc,pv]at *
  obtain⟨callee,args,ts⟩:=c
  simp only at *
  obtain⟨args,rfl⟩:∃l:List Operand,args=l.toArray:=⟨args.toList,by simp⟩
  obtain⟨ts,rfl⟩:∃l:List TypeId,ts=l.toArray:=⟨ts.toList,by simp⟩
  change Pp tb σ callee args ts at hc
  change ∃v,_∧Gives P w St σ (tm a) (Ni σ callee args) v []
  unfold Pp at hc
  split at hc
  ·rename_i x t
   obtain⟨b1,hx⟩:=Ld h x
   by_cases hsm:∃q,Co σ x=.same q
   ·obtain⟨q,hq⟩:=hsm
    simp only[Ni]
    rw[hq]at hc⊢
    simp only[Tg,X5]at hc⊢
    cases x with
    |tmp p=>
     have hp:σ p=.same q:=hq
     split at hc
     ·rename_i e' n cs e es eb ez hs ht
      obtain⟨v,hr,hv⟩:=lD (rt:=o.type) h (htb _ _ ht) hp hs
      simp only[hs]
      refine⟨v,?_,.of hv rfl⟩
      have e1:a.eval (.tmp p)=tm a p:=rfl
      simp only[execOp,ho,resolve,invoke,builtin,A6,BA,AM,Hv,AC,DX,e1,hr]
     ·exact hc.elim
    |const v=>exfalso;simp only[Co,cV]at hq;split at hq<;>(try split at hq)<;>cases hq
    |global g=>cases hq
    |func f=>cases hq
   have h1:Tg (tb t) σ (Co σ x)=jk (tb t) (Co σ x):=by
    cases hx':Co σ x<;>first|rfl|exact absurd ⟨_,hx'⟩ hsm
   have h2:X5 σ (Co σ x)=lenV (Co σ x):=by
    cases hx':Co σ x<;>first|rfl|exact absurd ⟨_,hx'⟩ hsm
   rw[h1]at hc
   simp only[Ni,h2]
   obtain⟨v,hr,hv⟩:=pC (rt:=o.type) (λd e=>htb _ _ e) hx hc
   refine⟨v,?_,.of hv ?_⟩
   ·simp only[execOp,ho,resolve,invoke,builtin,A6,BA,AM,Hv,AC,DX,hr]
   ·exact lE hc
  ·rename_i x y
   obtain⟨b1,hx⟩:=Ld h x
   obtain⟨b2,hy⟩:=Ld h y
   obtain⟨v,hr,hv⟩:=pO (rt:=o.type) (ts:=ts.toArray) hx hy hc
   refine⟨v,?_,.of hv ?_⟩
   ·simp only[execOp,ho,resolve,invoke,builtin,A6,BA,AM,Hv,AC,DX,hr]
   ·simp only[Ni];exact gF hc
  ·rename_i x y
   obtain⟨b1,hx⟩:=Ld h x
   obtain⟨b2,hy⟩:=Ld h y
   obtain⟨v,hr,hv⟩:=pP (rt:=o.type) (ts:=ts.toArray) hx hy hc
   refine⟨v,?_,.of hv ?_⟩
   ·simp only[execOp,ho,resolve,invoke,builtin,A6,BA,AM,Hv,AC,DX,hr]
   ·simp only[Ni];exact gF hc
  ·exact hc.elim
 |_=>rw[ho]at hc;exact hc.elim
end
end
section
theorem mY{P:Program}(w:World)(t ty e:TypeId)(z:Value)(size bytes:Nat)(ht:P.underlying t=some (.slice e))
  (hinfo:(P.info? e).map (λi=>(i.zero,i.size,i.bytes))=some (some z,size,bytes)) (hzs:z.cells.size=size) (hsz:0 < size) (hby:0 < bytes)
  (v:Value) (n:Nat) (xs:List Value) (hown:w.ownsRow 0 e size v n xs)
  (vx:Value) (m:Nat) (news:List Value) (hr:M2 w size vx m news) (h1:∀u∈news,u.oneCell'=true) (hbytes:(n+m) * bytes<=140737488355328):
  ∃v' w',(Builtin.append_ #[t,t] ty #[v,vx]).run P w=.ok v' w'∧w'.ownsRow 0 e size v' (n+m) (xs++news)∧w.grownBy w' v.ownBlock∧
   (v'.ownBlock=v.ownBlock∨v'.ownBlock=some w.heap.size)∧∀g,v.ownBlock=some g->∀o,o < n * size->w'.cell? ⟨g,o,none⟩=w.cell? ⟨g,o,none⟩:=by
 obtain⟨i,hi,hzz⟩:=BI.1 hinfo
 simp only[B3]at hzz
 obtain⟨hz,hs,hb⟩:=hzz
 have h63:n+m<=maxLen:=by
  have:n+m<=(n+m) * bytes:=EJ _ hby
  unfold maxLen;omega
 have hr':=hr
 obtain⟨A,c,rfl,_⟩:=hr'
 obtain⟨hl,hnone,hsome⟩:=hr.drop_at
 cases A with
 |none=>
  have hm:=hnone rfl
  subst hm
  have hn:news=[]:=A1 (by simpa using hl)
  subst hn
  refine⟨v,w,?_,by simpa using hown,World.grownBy.refl w _,.inl rfl,λ_ _ _ _=>rfl⟩
  rcases hown.2 with⟨rfl,rfl⟩|⟨g,cap,cur,rfl,_,_,hnc,_⟩
  ·simp[Builtin.append_,Bp ht,sizeOf,typeInfo,hi,Builtin.lenOf,Builtin.firstCells]
  ·simp[Builtin.append_,Bp ht,sizeOf,typeInfo,hi,Builtin.lenOf,Builtin.firstCells,hnc,storeCells]
 |some ad=>
  obtain⟨v',w',hrun,h2,h3,_,h5⟩:=run_append_own_at (P:=P) w 0 t ty e i z size bytes ht hi hz hs hb hzs hsz v n xs hown ad m c news hl (hsome ad rfl) h1 h63 hbytes (CB _)
  refine⟨v',w',hrun,h2,h3,h5,λg hg o ho=>?_⟩
  rcases hown.2 with⟨rfl,rfl⟩|⟨g',cap,cur,rfl,_,hh,hnc,hcm,hcs,hx⟩
  ·cases hg
  ·simp only[Value.ownBlock,Ap]at hg
   subst hg
   have hold:w.cell? ⟨g',o,none⟩=xs[o]?:=by
    simp only[World.cell?,hh,Lb,Cm,Dz]
    rw[<-hx,EA,Av ho]
    simp
   by_cases hroom:n+m<=cap
   ·subst hs
    have hfit:n * i.size+news.length<=cur.size:=by rw[hl,hcs,<-C4];exact CA _ hroom
    have hr:=run_append_room (P:=P) w t ty e i ht hi g' n cap cur hh ad m c news hl (hsome ad rfl) h1 hroom hfit
    rw[hr]at hrun
    injection hrun with e1 e2
    subst e1
    rcases h2.2 with⟨h,_⟩|⟨g2,cap2,cur2,e3,_,hh2,_,_,_,hx2⟩
    ·cases h
    ·injection e3 with e3 e4 e5
     injection e3 with e3
     injection e3 with e3
     subst e3
     rw[hold]
     simp only[World.cell?,hh2,Lb,Cm,Dz]
     have h7:(cur2.toList.take ((n+m) * i.size))[o]? =(xs++news)[o]?:=by rw[hx2]
     rw[EA,Av (by rw[C4];omega),B4 (by rw[hown.1];exact ho)]at h7
     simpa using h7
   ·subst hs
    have holds:∀j u,xs[j]? =some u->w.cell? ((⟨g',0,none⟩:Addr).add j)=some u:=hown.cells (g:=g') rfl
    have hr:=run_append_grow (P:=P) w t ty e i z ht hi hz ⟨g',0,none⟩ n cap xs hown.1 holds ad m c news hl (hsome ad rfl) (by omega) (by unfold maxLen at h63;omega) (growslice_fits (by omega) (by rw[hb];exact hbytes))
    rw[hr]at hrun
    injection hrun with e1 e2
    subst e2
    have hlt:g' < w.heap.size:=by
     rcases A9 g' w.heap.size with h|h
     ·exact h
     ·rw[EU h]at hh;cases hh
    exact(((Below.refl w.heap.size w).drew).alloc (AT _) _).cell (p:=⟨g',o,none⟩) hlt
structure BelowK (K:Nat->Prop) (w w':World):Prop where
 os:w'.os=w.os
 tape:w'.tape=w.tape
 output:w'.output=w.output
 size:w.heap.size<=w'.heap.size
 block:∀k,K k->w'.heap[k]? =w.heap[k]?
theorem BelowK.refl(K:Nat->Prop)(w:World):BelowK K w w:=⟨rfl,rfl,rfl,AT _,λ_ _=>rfl⟩
theorem BelowK.trans{K:Nat->Prop}{a b c:World}(h:BelowK K a b)(k:BelowK K b c):BelowK K a c:=
 ⟨k.os.trans h.os,k.tape.trans h.tape,k.output.trans h.output,BD h.size k.size,λi hi=>(k.block i hi).trans (h.block i hi)⟩
theorem BelowK.of{K:Nat->Prop}{n:Nat}{w w':World}(h:Below n w w')(hz:∀b,K b->b < n):BelowK K w w':=⟨h.os,h.tape,h.output,h.size,λk hk=>h.block k (hz k hk)⟩
theorem BelowK.below{K:Nat->Prop}{a w w':World}(h:BelowK K a w)(h1:Below w.heap.size w w')(hz:∀b,K b->b < w.heap.size):BelowK K a w':=h.trans (.of h1 hz)
theorem BelowK.alloc{K:Nat->Prop}{a w:World}(h:BelowK K a w)(hz:∀b,K b->b < w.heap.size)(ob:Obj):BelowK K a (w.alloc ob):=
 h.below ((Below.refl _ _).alloc (AT _) ob) hz
theorem BelowK.grown{K:Nat->Prop}{a w w':World}{row:Option Nat}(h:BelowK K a w)(hg:w.grownBy w' row)(hz:∀b,K b->b < w.heap.size)(hr:∀k,row=some k->¬K k):BelowK K a w':=
 h.trans ⟨hg.os,hg.tape,hg.output,hg.size,λk hk=>hg.block k (hz k hk) (λe=>hr k e.symm hk)⟩
theorem Uo{K:Nat->Prop}{w:World}(hz:∀b,K b->b < w.heap.size)(ob:Obj):∀b,K b->b < (w.alloc ob).heap.size:=λb hb=>by have:=hz b hb;simp;omega
theorem PR{K:Nat->Prop}{w w':World}(hz:∀b,K b->b < w.heap.size)(h:w.heap.size<=w'.heap.size):∀b,K b->b < w'.heap.size:=λb hb=>Bo (hz b hb) h
theorem lz{K:Nat->Prop}{n:Nat}(hz:∀b,K b->b < n):¬K n:=λh=>H1 _ (hz _ h)
def Rel(P:Program)(nt:Nat)(bx:zN)(base:Bs)(St0:Nat->Nat->Prop)(w0:World)(σ:PS)(a:Act)(w:World):Prop:=
 ∃St B,HSim P nt bx base St B [] σ a w∧BelowK base.K w0 w∧(∀b o,base b->(St b o↔St0 b o))∧∀b,base b->b < w.heap.size
def RD(P:Program)(nt:Nat)(bx:zN)(base:Bs)(St0:Nat->Nat->Prop)(w0:World)(o:Oper)(σ:PS)(K:PS->Prop):Prop:=
 ∀a w Q,Rel P nt bx base St0 w0 σ a w->o.wp P a w (λa' w'=>∃σ',K σ'∧Rel P nt bx base St0 w0 σ' a' w') Q
section
variable {P:Program}{nt:Nat}{base:Bs}{bx:zN}{St St' St0:Nat->Nat->Prop}{B:Nat->zN}{hand:zN}{σ:PS}{a:Act}{w w' w0:World}{K:PS->Prop}{Q:Exit->Act->World->Prop}{o:Oper}
theorem HSim.grow(h:HSim P nt bx base St B hand σ a w)(hb:Below w.heap.size w w')(hst:∀b o,b < w.heap.size->(St' b o↔St b o))(hst':∀b o,St' b o->b < w'.heap.size):HSim P nt bx base St' B hand σ a w':=
 h.world (λb o hs=>(hst b o (h.st b o hs)).2 hs) (λb o hs=>hb.cell (p:=⟨b,o,none⟩) (h.st b o hs)) hb.size (λs g hg=>⟨hb.block g (h.range s g hg).2,λo=>hst g o (h.range s g hg).2⟩) hst'
theorem Kr{K':Act->World->Prop}{v:Value}(hr:(execOp a.eval o).run P w=.ok (.value v) w')(hk:K' (a.put o.dst v) w'):o.wp P a w K' Q:=by
 unfold Oper.wp;rw[hr];exact hk
theorem nV{K':Act->World->Prop}(hr:(execOp a.eval o).run P w=.ok .skip w')(hk:K' (a.put o.dst undef) w'):o.wp P a w K' Q:=by
 unfold Oper.wp;rw[hr];exact hk
theorem Xi{tb:Tb}(htb:IG P tb){d:Nat}(ho:o.dst=some d)(hd:d < nt)(hx:d∉bx)(hc:pc tb σ o.op)(hk:K (upd σ d (pv tb σ o.op))):RD P nt bx base St0 w0 o σ K:=by
 rintro a w Q ⟨St,B,h,hb,hst,hz⟩
 obtain⟨v,hr,hs,hn,hcr⟩:=pure_run htb h o hc
 refine Kr hr ⟨_,hk,St,upd B d [],?_,hb,hst,hz⟩
 rw[ho]
 exact h.put hd hx hs AG (by simp) hn hcr
def CO(σ:PS):Operand->PS
 |.tmp s=>upd σ s (dg (σ s))
 |_=>σ
theorem Rj(h:HSim P nt bx base St B hand σ a w)(x:Operand)(hv:(Co σ x).isVal=true):
  ∃bs B',Ow P w St (Co σ x) (a.eval x) bs∧HSim P nt bx base St B' (hand++bs) (CO σ x) a w∧(hand++bs).Nodup:=by
 cases x with
 |tmp s=>
  obtain⟨h1,h2⟩:=h.take s hv
  exact⟨B s,_,h1,h2,h2.hnodup⟩
 |const v=>exact⟨[],B,(Zk (a:=a) v).ow hv,by simpa[CO]using h,by simpa using h.hnodup⟩
 |global g=>cases hv
 |func f=>exact⟨[],B,⟨rfl,rfl⟩,by simpa[CO]using h,by simpa using h.hnodup⟩
theorem Xj{x:Operand}{d:Nat}(hop:o.op=.assign x∨o.op=.move x)(ho:o.dst=some d)(hd:d < nt)(hx:d∉bx)(hv:(Co σ x).isVal=true)(hk:K (upd (CO σ x) d (Co σ x))):RD P nt bx base St0 w0 o σ K:=by
 rintro a w Q ⟨St,B,h,hb,hst,hz⟩
 obtain⟨bs,B',h1,h2,h3⟩:=Rj h x hv
 have hr:(execOp a.eval o).run P w=.ok (.value (a.eval x)) w:=by rcases hop with e|e<;>simp[execOp,e]
 refine Kr hr ⟨_,hk,St,upd B' d bs,?_,hb,hst,hz⟩
 rw[ho]
 exact h2.put hd hx h1.slot (by simpa using h3) (by simp) h1.Do.1 h1.Oa
theorem qb{d:Nat}{e:TypeId}(hop:o.op=.assign (.const (.slice none 0 0))∨o.op=.move (.const (.slice none 0 0)))(ho:o.dst=some d)(hd:d < nt)(hx:d∉bx)(hk:K (upd σ d (.own e 0 []))):RD P nt bx base St0 w0 o σ K:=by
 rintro a w Q ⟨St,B,h,hb,hst,hz⟩
 have hr:(execOp a.eval o).run P w=.ok (.value (.slice none 0 0)) w:=by rcases hop with e|e<;>simp[execOp,e,Act.eval]
 refine Kr hr ⟨_,hk,St,upd B d [],?_,hb,hst,hz⟩
 rw[ho]
 have hw:Ow P w St (.own e 0 []) (.slice none 0 0) []:=⟨CB _,[],[],JF _ _ _ _,⟨rfl,rfl⟩,rfl,(λg hg=>by cases hg),λ_=>rfl⟩
 exact h.put hd hx hw.slot AG (by simp) hw.Do.1 hw.Oa
theorem mo{d:Nat}(hop:o.op=.assign (.const (.pointer none))∨o.op=.move (.const (.pointer none)))(ho:o.dst=some d)(hd:d < nt)(hx:d∉bx)(hk:K (upd σ d .undef)):RD P nt bx base St0 w0 o σ K:=by
 rintro a w Q ⟨St,B,h,hb,hst,hz⟩
 have hr:(execOp a.eval o).run P w=.ok (.value (.pointer none)) w:=by rcases hop with e|e<;>simp[execOp,e,Act.eval]
 refine Kr hr ⟨_,hk,St,upd B d [],?_,hb,hst,hz⟩
 rw[ho]
 exact h.put hd hx (c:=.undef) rfl AG (by simp) rfl (λb e=>by cases e)
theorem Js.split:∀(cs:List V) (i:Nat) {us:List Value}{bs:zN}{c:V},Js P w St cs us bs->cs[i]? =some c->cs.all V.isArg=true->bs.Nodup->∃u b1 b2,us[i]? =some u∧Ow P w St c u b1∧Js P w St (cs.set i (dg2 c)) us b2∧b1.Nodup∧b2.Nodup∧(∀g∈b1,g∈bs)∧(∀g∈b2,g∈bs)∧∀g∈b1,g∉b2
 |[],i,_,_,_,_,e,_,_=>by simp at e
 |d::cs,0,_,_,c,⟨u,us',b1,b2,e1,e2,h1,h2⟩,e,ha,hn=>by
  simp only[B6,Ap]at e
  subst e
  simp only[Bz,Aa]at ha
  rw[e2]at hn⊢
  have hn':=Aq.1 hn
  refine⟨u,b1,b2,by rw[e1];rfl,h1,⟨u,us',[],b2,e1,rfl,h1.Lq ha.1,h2⟩,hn'.1,hn'.2.1,λg hg=>Az _ hg,λg hg=>Ar _ hg,λg hg hg'=>hn'.2.2 g hg g hg' rfl⟩
 |d::cs,i+1,_,_,c,⟨u,us',b1,b2,e1,e2,h1,h2⟩,e,ha,hn=>by
  simp only[Bz,Aa]at ha
  rw[e2]at hn⊢
  have hn':=Aq.1 hn
  obtain⟨x,c1,c2,h3,h4,h5,n1,n2,s1,s2,ap⟩:=Js.split cs i h2 (by simpa using e) ha.2 hn'.2.1
  refine⟨x,c1,b1++c2,by rw[e1];simpa using h3,h4,⟨u,us',b1,c2,e1,rfl,h1,h5⟩,n1,?_,λg hg=>Ar _ (s1 g hg),λg hg=>?_,λg hg hg'=>?_⟩
  ·exact Aq.2 ⟨hn'.1,n2,λx hx y hy exy=>hn'.2.2 x hx y (s2 y hy) exy⟩
  ·rcases Al.1 hg with h|h
   ·exact Az _ h
   ·exact Ar _ (s2 g h)
  ·rcases Al.1 hg' with h|h
   ·exact hn'.2.2 g h g (s1 g hg) rfl
   ·exact ap g hg h
theorem HSim.part(h:HSim P nt bx base St B hand σ a w)(s:Nat)(hold:CS (σ s)=none){c:V}{b1 b2:zN}(hc:Cf P w St (tm a) c (tm a s) b2)(hnb:CS c=none)(hcr:DI c=none)
  (n1:b1.Nodup) (n2:b2.Nodup) (s1:∀g∈b1,g∈B s) (s2:∀g∈b2,g∈B s) (hap:∀g∈b1,g∉b2):HSim P nt bx base St (upd B s b2) (hand++b1) (upd σ s c) a w:=by
 have hB:∀q,∀g∈upd B s b2 q,g∈B q:=by
  intro q g hg
  by_cases e:q=s
  ·subst e;rw[upd_same]at hg;exact s2 g hg
  ·rw[upd_ne _ _ e]at hg;exact hg
 exact
 {h with
  slot:=λq=>by
   by_cases e:q=s
   ·subst e;rw[upd_same,upd_same];exact hc
   ·rw[upd_ne _ _ e,upd_ne _ _ e];exact h.slot q
  boxes:=λq cs e=>by
   by_cases eq:q=s
   ·subst eq;rw[upd_same,hnb]at e;cases e
   ·rw[upd_ne _ _ eq]at e;exact h.boxes q cs e
  crefs:=λq b e=>by
   by_cases eq:q=s
   ·subst eq;rw[upd_same,hcr]at e;cases e
   ·rw[upd_ne _ _ eq]at e
    obtain⟨cs,hcs⟩:=h.crefs q b e
    refine⟨cs,?_⟩
    rw[upd_ne _ _ (λeb=>by subst eb;rw[hold]at hcs;cases hcs)];exact hcs
  nodup:=λq=>by
   by_cases e:q=s
   ·subst e;rw[upd_same];exact n2
   ·rw[upd_ne _ _ e];exact h.nodup q
  apart:=λq r hqr g hg hg'=>h.apart q r hqr g (hB q g hg) (hB r g hg')
  hnodup:=Aq.2 ⟨h.hnodup,n1,λx hx y hy e=>by subst e;exact h.hapart s x (s1 x hy) hx⟩
  hapart:=λq g hg hm=>by
   rcases Al.1 hm with hm|hm
   ·exact h.hapart q g (hB q g hg) hm
   ·by_cases e:q=s
    ·subst e;rw[upd_same]at hg;exact hap g hm hg
    ·exact h.apart q s e g (hB q g hg) (s1 g hm)
  range:=λq g hg=>h.range q g (hB q g hg)
  hrange:=λg hg=>by
   rcases Al.1 hg with hg|hg
   ·exact h.hrange g hg
   ·exact h.range s g (s1 g hg)}
theorem ce{s i d:Nat}(hop:o.op=.extract (.tmp s) i)(ho:o.dst=some d)(hd:d < nt)(hx:d∉bx){cs:List V}{c:V}(hs:σ s=.tup cs)(hi:cs[i]? =some c)(ha:cs.all V.isArg=true)
  (hk:K (upd (upd σ s (.tup (cs.set i (dg2 c)))) d c)):RD P nt bx base St0 w0 o σ K:=by
 rintro a w Q ⟨St,B,h,hb,hst,hz⟩
 have hsl:=h.slot s
 rw[hs]at hsl
 obtain⟨us,e1,h1⟩:=hsl
 obtain⟨u,b1,b2,h2,h3,h4,n1,n2,s1,s2,ap⟩:=Js.split cs i h1 hi ha (h.nodup s)
 have hr:(execOp a.eval o).run P w=.ok (.value u) w:=by
  have e2:a.eval (.tmp s)=.tuple us.toArray:=e1
  simp[execOp,hop,e2,Instr.extract,h2]
 have h5:=h.part s (by rw[hs];rfl) (c:=.tup (cs.set i (dg2 c))) (b1:=b1) (b2:=b2) ⟨us,e1,h4⟩ rfl rfl n1 n2 s1 s2 ap
 refine Kr hr ⟨_,hk,St,upd (upd B s b2) d b1,?_,hb,hst,hz⟩
 rw[ho]
 exact h5.put hd hx h3.slot n1 (by simp) h3.Do.1 h3.Oa
theorem A7.app:∀{cs ds:List V}{us:List Value}{bs:zN},A7 P w St (cs++ds) us bs->∃us1 us2 b1 b2,us=us1++us2∧bs=b1++b2∧A7 P w St cs us1 b1∧A7 P w St ds us2 b2
 |[],ds,us,bs,h=>⟨[],us,[],bs,rfl,rfl,⟨rfl,rfl⟩,h⟩
 |c::cs,ds,us,bs,⟨u,us',b1,b2,e1,e2,hc,h1,h2⟩=>by
  obtain⟨us1,us2,c1,c2,e3,e4,h3,h4⟩:=A7.app h2
  exact⟨u::us1,us2,b1++c1,c2,by rw[e1,e3];rfl,by rw[e2,e4,Bj],⟨u,us1,b1,c1,rfl,rfl,hc,h1,h3⟩,h4⟩
theorem A7.join:∀{cs ds:List V}{us1 us2:List Value}{b1 b2:zN},A7 P w St cs us1 b1->A7 P w St ds us2 b2->A7 P w St (cs++ds) (us1++us2) (b1++b2)
 |[],ds,_,us2,_,b2,⟨e1,e2⟩,h=>by subst e1 e2;exact h
 |c::cs,ds,_,us2,_,b2,⟨u,us',c1,c2,e1,e2,hc,h1,h2⟩,h=>⟨u,us'++us2,c1,c2++b2,by rw[e1];rfl,by rw[e2,Bj],hc,h1,A7.join h2 h⟩
def GJ:V->List V
 |.agg cs=>cs
 |c=>[c]
theorem Ow.cells{c:V}{v:Value}{bs:zN}(h:Ow P w St c v bs)(hc:c.isArg=true):A7 P w St (GJ c) v.cells.toList bs:=by
 have key:∀c:V,c.Ds=true->Ow P w St c v bs->A7 P w St [c] v.cells.toList bs:=by
  intro c hc h
  have h1:=(Ow.rd c h hc).oneCell
  have:v.cells= #[v]:=by cases v<;>first|rfl|cases h1
  rw[this]
  exact⟨v,[],bs,[],rfl,by simp,hc,h,rfl,rfl⟩
 cases c<;>first|exact key _ hc h|cases hc|skip
 obtain⟨us,rfl,h⟩:=h
 exact h
def Mg{α:Type}(cs:List α)(off:Nat)(new:List α):List α:=cs.take off++new++cs.drop (off+new.length)
theorem VP{α:Type}{cs new:List α}{off:Nat}(h:off+new.length<=cs.length):(Mg cs off new).length=cs.length:=by
 simp[Mg];omega
theorem Z2{α:Type}(cs:List α)(off n:Nat):cs=cs.take off++((cs.drop off).take n++cs.drop (off+n)):=by
 rw[<-Hi,C8,C8]
theorem HSim.Aaz(h:HSim P nt bx base St B hand σ a w){s g:Nat}{cs cs':List V}{c':V}{bs':zN}(hcs:CS (σ s)=some cs)(hcs':CS c'=some cs')(hB:B s=g::bs')(hng:∀o,¬St g o)(hkeep:∀k,k≠g->w'.heap[k]? =w.heap[k]?)(hz:w'.heap.size=w.heap.size)
  {bs:zN}{hand':zN}(hc:Cf P w' St (tm a) c' (tm a s) bs)
  (hn:bs.Nodup) (hs:∀g∈bs,g∈B s∨g∈hand) (hn':hand'.Nodup) (hs':∀g∈hand',g∈B s∨g∈hand) (hap:∀g∈bs,g∉hand'):
  HSim P nt bx base St (upd B s bs) hand' (upd σ s c') a w':=by
 have hrf:DI c'=none:=by cases c'<;>first|rfl|cases hcs'
 have hbox:∀b,(∃cs,CS (σ b)=some cs)->∃cs'',CS (upd σ s c' b)=some cs'':=λb ⟨cs,e⟩=>by
  by_cases eb:b=s
  ·subst eb;exact⟨cs',by rw[upd_same];exact hcs'⟩
  ·exact⟨cs,by rw[upd_ne _ _ eb];exact e⟩
 have hout:∀q,q≠s->∀g∈B q,¬(g∈B s∨g∈hand):=λq hq g hg hm=>by
  rcases hm with hm|hm
  ·exact h.apart q s hq g hg hm
  ·exact h.hapart q g hg hm
 refine
 {size:=h.size
  defers:=h.defers
  slot:=λq=>by
   by_cases e:q=s
   ·subst e;rw[upd_same,upd_same];exact hc
   ·rw[upd_ne _ _ e,upd_ne _ _ e]
    refine(h.slot q).mono (λ_ _ h=>h) (λb o hs=>?_) (λk hk=>⟨hkeep k (λek=>?_),λ_=>Dx⟩) (λ_ _=>rfl)
    ·exact BS (hkeep b (λeb=>hng o (eb ▸ hs)))
    ·subst ek;exact h.apart q s e k hk (by rw[hB];simp)
  boxes:=λq cs e=>by
   by_cases eq:q=s
   ·subst eq;exact h.boxes _ _ hcs
   ·rw[upd_ne _ _ eq]at e;exact h.boxes q cs e
  crefs:=λq b e=>by
   by_cases eq:q=s
   ·subst eq;rw[upd_same,hrf]at e;cases e
   ·rw[upd_ne _ _ eq]at e;exact hbox b (h.crefs q b e)
  nodup:=λq=>by
   by_cases e:q=s
   ·subst e;rw[upd_same];exact hn
   ·rw[upd_ne _ _ e];exact h.nodup q
  apart:=λq r hqr g hg hg'=>by
   by_cases e:q=s
   ·subst e;rw[upd_same]at hg;rw[upd_ne _ _ (Ne.symm hqr)]at hg';exact hout r (Ne.symm hqr) g hg' (hs g hg)
   ·rw[upd_ne _ _ e]at hg
    by_cases e':r=s
    ·subst e';rw[upd_same]at hg';exact hout q e g hg (hs g hg')
    ·rw[upd_ne _ _ e']at hg';exact h.apart q r hqr g hg hg'
  hnodup:=hn'
  hapart:=λq g hg hm=>by
   by_cases e:q=s
   ·subst e;rw[upd_same]at hg;exact hap g hg hm
   ·rw[upd_ne _ _ e]at hg;exact hout q e g hg (hs' g hm)
  range:=λq g hg=>by
   rw[hz]
   by_cases e:q=s
   ·subst e;rw[upd_same]at hg
    rcases hs g hg with h1|h1
    ·exact h.range _ g h1
    ·exact h.hrange g h1
   ·rw[upd_ne _ _ e]at hg;exact h.range q g hg
  hrange:=λg hg=>by
   rw[hz]
   rcases hs' g hg with h1|h1
   ·exact h.range _ g h1
   ·exact h.hrange g h1
  st:=λb o hs=>by rw[hz];exact h.st b o hs
  gl:=h.gl.of (λb hb o=>hb o) (λb o hb=>BS (hkeep b (λeb=>hng o (eb ▸ hb o))))
  pin:=h.pin}
end
end
section
def Po(d:TyD)(cs:List V)(off:Nat):V:=
 match d with
 |.st n _ _=>.agg ((cs.drop off).take n)
 |_=>match cs[off]? with
  |some c=>c
  |none=>.undef
def NJ(n:Nat)(cs:List V)(off:Nat):List V:=Mg cs off (((cs.drop off).take n).map QT)
section
variable {P:Program}{nt:Nat}{base:Bs}{bx:zN}{St St' St0:Nat->Nat->Prop}{B:Nat->zN}{hand:zN}{σ:PS}{a:Act}{w w' w0:World}{K:PS->Prop}{Q:Exit->Act->World->Prop}{o:Oper}
theorem take_one{α:Type}{cs:List α}{off:Nat}(h:off < cs.length):(cs.drop off).take 1=[cs[off]]:=by
 rw[AR h,C1,List.take_zero]
theorem ZZ{tb:Tb}(htb:IG P tb){t:TypeId}{dd:TyD}{x:Operand}{s off d:Nat}{cs:List V}(hop:o.op=.load t x)(ht:tb t=some dd)(hax:KQ σ x=.cref s off)(hs:CS (σ s)=some cs)(hl:off+dd.size<=cs.length)
  (ho:o.dst=some d) (hd:d < nt) (hx:d∉bx) (hk:K (upd (upd σ s (Rr (σ s) (NJ dd.size cs off))) d (Po dd cs off))):RD P nt bx base St0 w0 o σ K:=by
 rintro a w Q ⟨St,B,h,hb,hst,hz⟩
 obtain⟨g,T,bs',arr,h1,h2,h3,h4,h5,h6⟩:=O4 h hax hs
 have hlc:R1 dd σ (KQ σ x):=by rw[hax];simp only[R1,hs];exact hl
 have hagr:=htb _ _ ht
 have e0:=Z2 cs off dd.size
 rw[e0]at h4
 obtain⟨us1,us2,b1,b2,eu,eb,r1,r2⟩:=A7.app h4
 obtain⟨us3,us4,b3,b4,eu',eb',r3,r4⟩:=A7.app r2
 have l1:us1.length=off:=by rw[r1.length,AJ,Cq (by omega)]
 have l3:us3.length=dd.size:=by rw[r3.length,AJ,Bt,Cq (by omega)]
 have hnd:(g::(b1++(b3++b4))).Nodup:=by have:=h.nodup s;rw[h5,eb,eb']at this;exact this
 have hcell:∀(j:Nat) (u:Value),us3[j]? =some u->w.cell? ⟨g,off+j,none⟩=some u:=by
  intro j u hu
  have hj:j < us3.length:=by
   rcases A9 j us3.length with h|h
   ·exact h
   ·rw[A2 h]at hu;cases hu
  simp only[World.cell?,h3,Lb,Cm,Dz]
  have:arr.toList[off+j]? =some u:=by
   rw[eu,eu',CF (by omega),l1,De,B4 hj];exact hu
  simpa using this
 have hval:∃v,(execOp a.eval o).run P w=.ok (.value v) w∧Ow P w St (Po dd cs off) v b3:=by
  cases hag:dd.UU with
  |true=>
   cases dd with
   |sc z=>cases hag
   |sl e es eb ez=>cases hag
   |st n z f=>
    refine⟨.agg us3.toArray,?_,us3,rfl,r3⟩
    have hr:=GB (P:=P) (w:=w) ⟨g,off,none⟩ us3 (λj v hv=>by rw[add_plain];exact hcell j v hv)
    simp only[TyD.size]at l3
    rw[l3]at hr
    simp[execOp,hop,h1,Instr.loadAt,Instr.sureAddr,loadVar,hagr.isAgg,hagr.sizeOf,TyD.UU,TyD.size,hr]
  |false=>
   have hs1:dd.size=1:=by cases dd<;>first|rfl|cases hag
   have hlt:off < cs.length:=by omega
   rw[hs1,take_one hlt]at r3
   obtain⟨u,us',c1,c2,e1,e2,hc,q1,q2⟩:=r3
   obtain⟨rfl,rfl⟩:=q2
   have hcl:=hcell 0 u (by rw[e1];rfl)
   refine⟨u,?_,?_⟩
   ·have hcell':w.cell? ⟨g,off,none⟩=some u:=by simpa using hcl
    simp[execOp,hop,h1,Instr.loadAt,Instr.sureAddr,loadVar,hagr.isAgg,hag,hcell']
   ·have:Po dd cs off=cs[off]:=by
     cases dd<;>first|(simp only[Po,Ac hlt];done)|cases hag
    rw[this,e2,AY]
    exact q1
 obtain⟨v,hr,hv⟩:=hval
 have hbox:Cf P w St (tm a) (Rr (σ s) (NJ dd.size cs off)) (tm a s) (g::(b1++b4)):=by
  have hlen:(NJ dd.size cs off).length=cs.length:=VP (by rw[Ak,AJ,Bt,Cq (by omega)];exact hl)
  refine XA hs (h.slot s) h2 h3 h3 ?_ h6 hlen
  have hj:=r1.join ((A7.VU _ r3).join r4)
  rw[Bl]at hj
  have ll:(((cs.drop off).take dd.size).map QT).length=dd.size:=by rw[Ak,AJ,Bt,Cq (by omega)]
  unfold NJ Mg
  rw[ll,eu,eu',Bj]
  exact hj
 have hnd2:=Bw.1 hnd
 have hnd3:=Aq.1 hnd2.2
 have hnd4:=Aq.1 hnd3.2.1
 have hsub:∀q∈g::(b1++b4),q∈B s∨q∈([]:zN):=by
  intro q hq
  rw[h5,eb,eb']
  simp only[AB,Al]at *
  rcases hq with h|h|h
  ·exact .inl (.inl h)
  ·exact .inl (.inr (.inl h))
  ·exact .inl (.inr (.inr (.inr h)))
 have hb3:∀q∈b3,q∈B s:=by
  intro q hq
  rw[h5,eb,eb']
  simp only[AB,Al]
  exact .inr (.inr (.inl hq))
 have h7:=h.vF (hand':=b3) hs (WF _ _) hbox (Bw.2 ⟨λhm=>hnd2.1 (by
   rcases Al.1 hm with hm|hm
   ·exact Az _ hm
   ·exact Ar _ (Ar _ hm)),Aq.2 ⟨hnd3.1,hnd4.2.1,λx hx y hy=>hnd3.2.2 x hx y (Ar _ hy)⟩⟩) hsub hnd4.1 (λq hq=>.inl (hb3 q hq)) (by
  intro q hq hq3
  rcases AB.1 hq with rfl|hq
  ·exact hnd2.1 (Ar _ (Az _ hq3))
  ·rcases Al.1 hq with hq|hq
   ·exact hnd3.2.2 q hq q (Az _ hq3) rfl
   ·exact hnd4.2.2 q hq3 q hq rfl)
 refine Kr hr ⟨_,hk,St,upd (upd B s (g::(b1++b4))) d b3,?_,hb,hst,hz⟩
 rw[ho]
 exact h7.put hd hx hv.slot hnd4.1 (by simp) hv.Do.1 hv.Oa
theorem nK{y:Operand}{s:Nat}{cs:List V}(hs:CS (σ s)=some cs)(hv:(Co σ y).isVal=true):CO σ y s=σ s:=by
 cases y with
 |tmp q=>
  simp only[CO]
  by_cases e:s=q
  ·subst e;rw[show Co σ (.tmp s)=σ s from rfl]at hv;rw[(Rm hv).1]at hs;cases hs
  ·rw[upd_ne _ _ e]
 |_=>rfl
theorem nJ{x y:Operand}{s off:Nat}(hax:KQ σ x=.cref s off)(hv:(Co σ y).isVal=true):KQ (CO σ y) x=.cref s off:=by
 cases y with
 |tmp q=>
  cases x with
  |tmp p=>
   have hpq:p≠q:=by
    intro e;subst e
    rw[show Co σ (.tmp p)=σ p from rfl]at hv
    simp only[KQ]at hax
    split at hax
    ·rename_i h;rw[h]at hv;cases hv
    ·rw[hax]at hv;cases hv
   simp only[CO,KQ]at *
   rw[upd_ne _ _ hpq];exact hax
  |_=>exact hax
 |_=>exact hax
theorem jz{tb:Tb}(htb:IG P tb){t:TypeId}{dd:TyD}{x y:Operand}{s off:Nat}{cs:List V}(hop:o.op=.store t x y)(ht:tb t=some dd)(hax:KQ σ x=.cref s off)(hs:CS (σ s)=some cs)
  (hv:(Co σ y).isArg=true) (hn:(GJ (Co σ y)).length=dd.size) (hl:off+dd.size<=cs.length) (ho:o.dst=none) (hk:K (upd (CO σ y) s (Rr (σ s) (Mg cs off (GJ (Co σ y)))))):RD P nt bx base St0 w0 o σ K:=by
 have hvv:(Co σ y).isVal=true:=by cases h:Co σ y<;>rw[h]at hv<;>first|exact hv|cases hv
 rintro a w Q ⟨St,B,h,hb,hst,hz⟩
 obtain⟨bs,B',hw,h2,hnb⟩:=Rj h y hvv
 rw[Bl]at h2 hnb
 have hs3:=nK hs hvv
 have hs2:CS (CO σ y s)=some cs:=by rw[hs3];exact hs
 obtain⟨g,T,bs',arr,q1,q2,q3,q4,q5,q6⟩:=O4 h2 (nJ hax hvv) hs2
 have hagr:=htb _ _ ht
 have hcells:=hw.cells hv
 have e0:=Z2 cs off dd.size
 rw[e0]at q4
 obtain⟨us1,us2,b1,b2,eu,eb,r1,r2⟩:=A7.app q4
 obtain⟨us3,us4,b3,b4,eu',eb',r3,r4⟩:=A7.app r2
 have l1:us1.length=off:=by rw[r1.length,AJ,Cq (by omega)]
 have l3:us3.length=dd.size:=by rw[r3.length,AJ,Bt,Cq (by omega)]
 have lv:(a.eval y).cells.toList.length=dd.size:=by rw[hcells.length,hn]
 have la:arr.toList.length=cs.length:=by rw[eu,eu',Aw,Aw,l1,l3,r4.length,Bt];omega
 have hst0:=run_storeCells_at (P:=P) g off T (a.eval y).cells.toList 0 arr w q3 (by rw[lv];rw[BN]at la;omega) ((A7.rdL _ hcells).oneCell)
 have hnew:arr.toList.take (off+0)++(a.eval y).cells.toList++arr.toList.drop (off+0+(a.eval y).cells.toList.length)=us1++((a.eval y).cells.toList++us4):=by
  rw[lv,Dt,eu,eu',Bj]
  congr 1
  ·rw[<-l1];simp
  ·congr 1
   rw[<-Bj,Dk (by simp[l1,l3]),BY (by simp[l1,l3])]
   simp
 rw[hnew]at hst0
 have hr:(execOp a.eval o).run P w=.ok .skip (w.setRow g (us1++((a.eval y).cells.toList++us4)).toArray):=by
  have hsz:(a.eval y).cells.size=dd.size:=by rw[<-lv,BN]
  simp[execOp,hop,q1,Instr.storeAt,Instr.sureAddr,storeVar,hagr.sizeOf,hsz,hst0]
 have hkeep:∀k,k≠g->(w.setRow g (us1++((a.eval y).cells.toList++us4)).toArray).heap[k]? =w.heap[k]?:=λk hk=>If w g k _ hk
 have hsize:(w.setRow g (us1++((a.eval y).cells.toList++us4)).toArray).heap.size=w.heap.size:=by simp[World.setRow]
 have hext:Ext St w (w.setRow g (us1++((a.eval y).cells.toList++us4)).toArray):=λb o' hs'=>BS (hkeep b (λe=>q6 o' (e ▸ hs')))
 have hnd:(g::(b1++(b3++b4))).Nodup:=by have:=h2.nodup s;rw[q5,eb,eb']at this;exact this
 have hnd2:=Bw.1 hnd
 have hnd3:=Aq.1 hnd2.2
 have hnd4:=Aq.1 hnd3.2.1
 have hgb:∀k∈bs,k≠g:=λk hk e=>h2.hapart s g (by rw[q5];simp) (e ▸ hk)
 have hBs:∀k,k∈b1∨k∈b4->k∈B' s:=by
  intro k hk
  rw[q5,eb,eb']
  simp only[AB,Al]
  rcases hk with hk|hk
  ·exact .inr (.inl hk)
  ·exact .inr (.inr (.inr hk))
 have hg1:∀k∈b1,k≠g:=λk hk e=>hnd2.1 (e ▸ Az _ hk)
 have hg4:∀k∈b4,k≠g:=λk hk e=>hnd2.1 (e ▸ Ar _ (Ar _ hk))
 have m1:=A7.mono (St':=St) (λ_ _ h=>h) hext _ r1 (λk hk=>⟨hkeep k (hg1 k hk),λ_=>Dx⟩)
 have m4:=A7.mono (St':=St) (λ_ _ h=>h) hext _ r4 (λk hk=>⟨hkeep k (hg4 k hk),λ_=>Dx⟩)
 have mv:=A7.mono (St':=St) (λ_ _ h=>h) hext _ hcells (λk hk=>⟨hkeep k (hgb k hk),λ_=>Dx⟩)
 have hbox:Cf P (w.setRow g (us1++((a.eval y).cells.toList++us4)).toArray) St (tm a) (Rr (σ s) (Mg cs off (GJ (Co σ y)))) (tm a s) (g::(b1++(bs++b4))):=by
  refine XA hs (by have:=h2.slot s;rw[hs3]at this;exact this) q2 q3 (setRow_heap w g arr _ T _ q3) ?_ q6 (VP (by rw[hn];exact hl))
  unfold Mg
  rw[hn,Bj]
  exact m1.join (mv.join m4)
 have hda:∀k∈bs,¬(k∈b1∨k∈b4):=λk hk hm=>h2.hapart s k (hBs k hm) hk
 refine nV hr ⟨_,hk,St,upd B' s (g::(b1++(bs++b4))),?_,?_,hst,by rw[hsize];exact hz⟩
 ·rw[ho]
  refine h2.Aaz hs2 (WF _ _) q5 q6 hkeep hsize hbox ?_ ?_ AG (by simp) (by simp)
  ·refine Bw.2 ⟨?_,Aq.2 ⟨hnd3.1,Aq.2 ⟨hnb,hnd4.2.1,λx hx y hy e=>hda x hx (.inr (e ▸ hy))⟩,?_⟩⟩
   ·intro hm
    rcases Al.1 hm with hm|hm
    ·exact hg1 g hm rfl
    ·rcases Al.1 hm with hm|hm
     ·exact hgb g hm rfl
     ·exact hg4 g hm rfl
   ·intro x hx y hy e
    rcases Al.1 hy with hy|hy
    ·exact hda y hy (.inl (e ▸ hx))
    ·exact hnd3.2.2 x hx y (Ar _ hy) e
  ·intro k hk
   rcases AB.1 hk with rfl|hk
   ·exact .inl (by rw[q5];simp)
   ·rcases Al.1 hk with hk|hk
    ·exact .inl (hBs k (.inl hk))
    ·rcases Al.1 hk with hk|hk
     ·exact .inr hk
     ·exact .inl (hBs k (.inr hk))
 ·have hgb:¬base g:=(h2.range s g (by rw[q5];simp)).1
  exact hb.trans ⟨rfl,rfl,rfl,by rw[hsize];exact AT _,λk hk=>hkeep k (λe=>hgb (e ▸ hk))⟩
def XT:TyD->List V
 |.sc z=>[z]
 |.st _ z _=>z
 |.sl e _ _ _=>[.own e 0 []]
theorem d7(e:TypeId):Ow P w St (.own e 0 []) (.slice none 0 0) []:=⟨CB _,[],[],JF _ _ _ _,⟨rfl,rfl⟩,rfl,(λg hg=>by cases hg),λ_=>rfl⟩
theorem nX{t:TypeId}{d:TyD}(h:M1 P t d):∃zv,(zeroValue t).run P w=.ok zv w∧∀w St,A7 P w St (XT d) zv.cells.toList []:=by
 cases d with
 |sc z=>
  obtain⟨i,zv,d,hi,_,hz,hzl,_⟩:=h
  refine⟨zv,by simp[zeroValue,typeInfo,hi,hz],λw St=>?_⟩
  have h1:=hzl w St
  have h2:=(A7.rdL _ h1).oneCell zv (by simp)
  have:zv.cells= #[zv]:=by cases zv<;>first|rfl|cases h2
  rw[this];exact h1
 |st n z f=>obtain⟨i,arr,fs,hi,_,hz,hzl,_⟩:=h;exact⟨.agg arr,by simp[zeroValue,typeInfo,hi,hz],λw St=>hzl w St⟩
 |sl e es eb ez=>
  obtain⟨i,j,zv,hi,_,hz,_⟩:=h
  exact⟨.slice none 0 0,by simp[zeroValue,typeInfo,hi,hz],λw St=>⟨.slice none 0 0,[],[],[],rfl,rfl,rfl,d7 e,rfl,rfl⟩⟩
theorem alloc_heap_new(w:World)(ob:Obj):(w.alloc ob).heap[w.heap.size]? =some ob:=heap_alloc_new w ob
theorem HSim.alloc(h:HSim P nt bx base St B hand σ a w)(hz:∀b,base b->b < w.heap.size)(ob:Obj)(hst:∀b o,b < w.heap.size->(St' b o↔St b o))(hst':∀b o,St' b o->b<=w.heap.size):
  HSim P nt bx base St' B (hand++[w.heap.size]) σ a (w.alloc ob):=by
 have h1:=h.grow (w':=w.alloc ob) (Wy w ob) hst (λb o hs=>by rw[World.size_alloc];exact Nat.lt_succ_of_le (hst' b o hs))
 refine h1.fresh (by simp) ?_ ?_ ?_
 ·intro g hg
  simp only[AP]at hg
  subst hg
  exact⟨lz hz,by simp⟩
 ·intro s g hg hm
  simp only[AP]at hm
  have:=(h.range s g hg).2
  omega
 ·intro g hg hm
  simp only[AP]at hm
  have:=(h.hrange g hg).2
  omega
theorem jo{tb:Tb}(htb:IG P tb){t:TypeId}{dd:TyD}{d:Nat}(hop:o.op=.alloc t)(ht:tb t=some dd)(ho:o.dst=some d)(hd:d < nt)(hx:d∈bx)(hd0:N9+d∉bx)(hold:CS (σ d)=none)(hk:K (upd σ d (.box (XT dd)))):RD P nt bx base St0 w0 o σ K:=by
 rintro a w Q ⟨St,B,h,hb,hst,hz⟩
 obtain⟨zv,hzr,hzl⟩:=nX (w:=w) (htb _ _ ht)
 have hr:(execOp a.eval o).run P w=.ok (.value (.pointer (some ⟨w.heap.size,0,none⟩))) (w.alloc (.cells zv.cells t)):=by
  simp[execOp,hop,Instr.alloc,hzr,newVar,newRow]
 have h1:=h.alloc (St':=St) hz (.cells zv.cells t) (λ_ _ _=>Dx) (λb o hs=>Eg (h.st b o hs))
 refine Kr hr ⟨_,hk,St,upd B d [w.heap.size],?_,hb.alloc hz _,hst,Uo hz _⟩
 rw[ho]
 refine h1.Xo hd hx hd0 hold (c:=.box (XT dd)) ⟨w.heap.size,t,[],zv.cells,rfl,alloc_heap_new w _,hzl _ _,rfl,λo hs=>absurd (h.st _ o hs) (by omega)⟩ (by simp) (by simp) rfl
theorem zw(h:HSim P nt bx base St B hand σ a w){c:V}{v:Value}{bs:zN}(hw:Ow P w St c v bs)(hb:∀g∈bs,g∈hand)(ob:Obj)(hst:∀b o,b < w.heap.size->(St' b o↔St b o)):Ow P (w.alloc ob) St' c v bs:=
 Ow.mono (λb o hs=>(hst b o (h.st b o hs)).2 hs) (λb o hs=>(Wy w ob).cell (p:=⟨b,o,none⟩) (h.st b o hs)) c hw (λg hg=>⟨(Wy w ob).block g (h.hrange g (hb g hg)).2,λo=>hst g o (h.hrange g (hb g hg)).2⟩)
theorem Vu(h:HSim P nt bx base St B hand σ a w){cs:List V}{us:List Value}{bs:zN}(hw:A7 P w St cs us bs)(hb:∀g∈bs,g∈hand)(ob:Obj)(hst:∀b o,b < w.heap.size->(St' b o↔St b o)):A7 P (w.alloc ob) St' cs us bs:=
 A7.mono (λb o hs=>(hst b o (h.st b o hs)).2 hs) (λb o hs=>(Wy w ob).cell (p:=⟨b,o,none⟩) (h.st b o hs)) cs hw (λg hg=>⟨(Wy w ob).block g (h.hrange g (hb g hg)).2,λo=>hst g o (h.hrange g (hb g hg)).2⟩)
theorem JU{c:V}(h:c.isArg=true):c.isVal=true:=by cases c<;>first|exact h|cases h
theorem p8{t:TypeId}{x:Operand}{d:Nat}(hop:o.op=.box t x)(ho:o.dst=some d)(hd:d < nt)(hx:d∈bx)(hd0:N9+d∉bx)(hv:(Co σ x).isArg=true)(hold:CS (CO σ x d)=none)(hk:K (upd (CO σ x) d (.box (GJ (Co σ x))))):RD P nt bx base St0 w0 o σ K:=by
 rintro a w Q ⟨St,B,h,hb,hst,hz⟩
 obtain⟨bs,B',hw,h2,hnb⟩:=Rj h x (JU hv)
 rw[Bl]at h2 hnb
 have hr:(execOp a.eval o).run P w=.ok (.value (.pointer (some ⟨w.heap.size,0,none⟩))) (w.alloc (.cells (a.eval x).cells t)):=by
  simp[execOp,hop,Instr.box,newVar,newRow]
 have h1:=h2.alloc (St':=St) hz (.cells (a.eval x).cells t) (λ_ _ _=>Dx) (λb o hs=>Eg (h.st b o hs))
 have hrow:=Vu (St':=St) h2 (hw.cells hv) (λ_ h=>h) (.cells (a.eval x).cells t) (λ_ _ _=>Dx)
 have hgn:w.heap.size∉bs:=λhm=>by have:=(h2.hrange _ hm).2;omega
 refine Kr hr ⟨_,hk,St,upd B' d (w.heap.size::bs),?_,hb.alloc hz _,hst,Uo hz _⟩
 rw[ho]
 refine h1.Xo hd hx hd0 hold (c:=.box (GJ (Co σ x))) ⟨w.heap.size,t,bs,_,rfl,alloc_heap_new w _,hrow,rfl,λo hs=>absurd (h.st _ o hs) (by omega)⟩ (Bw.2 ⟨hgn,hnb⟩) (by
  intro g hg
  rcases AB.1 hg with rfl|hg
  ·simp
  ·exact Az _ hg) rfl
def OG(place:Nat->Option (Nat×Nat)):List (Nat×Operand)->PS->List V->Option (PS×List V)
 |[],σ,cs=>some (σ,cs)
 |(i,x)::r,σ,cs=>match place i with
  |some (off,sz)=>if(Co σ x).isArg=true∧(GJ (Co σ x)).length=sz∧off+sz<=cs.length then OG place r (CO σ x) (Mg cs off (GJ (Co σ x)))else none
  |none=>none
theorem nu(new:List Value):∀(k off:Nat) (arr:Array Value),off+k+new.length<=arr.size->
  (new.zipIdx k).foldl (λcs (c,j)=>cs.setIfInBounds (off+j) c) arr=(arr.toList.take (off+k)++new++arr.toList.drop (off+k+new.length)).toArray:=by
 induction new with
 |nil=>intro k off arr _;simp
 |cons u new ih=>
  intro k off arr hl
  simp only[AQ]at hl
  rw[List.zipIdx_cons,Cz,ih (k+1) off _ (by simp;omega)]
  have hp:off+k < arr.toList.length:=by rw[BN];omega
  have e1:(arr.setIfInBounds (off+k) u).toList=arr.toList.set (off+k) u:=by simp
  have e2:(arr.toList.set (off+k) u).take (off+(k+1))=arr.toList.take (off+k)++[u]:=by
   rw[show off+(k+1)=off+k+1 by omega,A5 (by rw[BM];exact hp),List.take_set_of_le (by omega)]
   simp
  have e3:(arr.toList.set (off+k) u).drop (off+(k+1)+new.length)=arr.toList.drop (off+k+(u::new).length):=by
   rw[List.drop_set_of_lt (by omega),AQ]
   congr 1;omega
  simp only
  rw[e1,e2,e3]
  simp
theorem ZC(place:Nat->Option (Nat×Nat)):∀(parts:List (Nat×Operand)) (σ σ':PS) (B:Nat->zN) (hand:zN) (cs cs':List V) (arr:Array Value) (bs:zN),HSim P nt bx base St B hand σ a w->A7 P w St cs arr.toList bs->bs.Nodup->(∀g∈bs,g∈hand)->OG place parts σ cs=some (σ',cs')->
  ∃B' hand' arr' bs',Instr.fill place arr (parts.map λp=>(p.1,a.eval p.2))=some arr'∧HSim P nt bx base St B' hand' σ' a w∧A7 P w St cs' arr'.toList bs'∧bs'.Nodup∧∀g∈bs',g∈hand'
 |[],σ,σ',B,hand,cs,cs',arr,bs,h,hr,hn,hs,e=>by
  simp only[OG,Ap,B3]at e
  obtain⟨rfl,rfl⟩:=e
  exact⟨B,hand,arr,bs,rfl,h,hr,hn,hs⟩
 |(i,x)::parts,σ,σ',B,hand,cs,cs',arr,bs,h,hr,hn,hs,e=>by
  simp only[OG]at e
  cases hp:place i with
  |none=>rw[hp]at e;cases e
  |some q=>
   obtain⟨off,sz⟩:=q
   rw[hp]at e
   simp only at e
   split at e
   ·rename_i hc
    obtain⟨hv,hl,hlen⟩:=hc
    obtain⟨bv,B',hw,h2,hnb⟩:=Rj h x (JU hv)
    have hcells:=hw.cells hv
    have e0:=Z2 cs off sz
    rw[e0]at hr
    obtain⟨us1,us2,b1,b2,eu,eb,r1,r2⟩:=A7.app hr
    obtain⟨us3,us4,b3,b4,eu',eb',r3,r4⟩:=A7.app r2
    have l1:us1.length=off:=by rw[r1.length,AJ,Cq (by omega)]
    have l3:us3.length=sz:=by rw[r3.length,AJ,Bt,Cq (by omega)]
    have lv:(a.eval x).cells.toList.length=sz:=by rw[hcells.length,hl]
    have la:arr.toList.length=cs.length:=by rw[eu,eu',Aw,Aw,l1,l3,r4.length,Bt];omega
    rw[BN]at la
    have hset:=nu (a.eval x).cells.toList 0 off arr (by omega)
    have hnew:arr.toList.take (off+0)++(a.eval x).cells.toList++arr.toList.drop (off+0+(a.eval x).cells.toList.length)=us1++((a.eval x).cells.toList++us4):=by
     rw[lv,Dt,eu,eu',Bj]
     congr 1
     ·rw[<-l1];simp
     ·congr 1
      rw[<-Bj,Dk (by simp[l1,l3]),BY (by simp[l1,l3])]
      simp
    rw[hnew]at hset
    have hrow:A7 P w St (Mg cs off (GJ (Co σ x))) (us1++((a.eval x).cells.toList++us4)) (b1++(bv++b4)):=by
     unfold Mg
     rw[hl,Bj]
     exact r1.join (hcells.join r4)
    rw[eb,eb']at hn hs
    have n1:=Aq.1 hn
    have n2:=Aq.1 n1.2.1
    have hnb':=Aq.1 hnb
    have hsub1:∀g∈b1,g∈hand:=λg hg=>hs g (Az _ hg)
    have hsub4:∀g∈b4,g∈hand:=λg hg=>hs g (Ar _ (Ar _ hg))
    obtain⟨B2,hand2,arr2,bs2,hf,h3,h4,h5,h6⟩:=ZC place parts (CO σ x) σ' B' (hand++bv) (Mg cs off (GJ (Co σ x))) cs' (us1++((a.eval x).cells.toList++us4)).toArray (b1++(bv++b4)) h2 hrow
     (Aq.2 ⟨n1.1,Aq.2 ⟨hnb'.2.1,n2.2.1,λx hx y hy e=>hnb'.2.2 y (hsub4 y hy) x hx e.symm⟩,λx hx y hy e=>by
      rcases Al.1 hy with hy|hy
      ·exact hnb'.2.2 x (hsub1 x hx) y hy e
      ·exact n1.2.2 x hx y (Ar _ hy) e⟩)
     (λg hg=>by
      rcases Al.1 hg with hg|hg
      ·exact Az _ (hsub1 g hg)
      ·rcases Al.1 hg with hg|hg
       ·exact Ar _ hg
       ·exact Az _ (hsub4 g hg)) e
    refine⟨B2,hand2,arr2,bs2,?_,h3,h4,h5,h6⟩
    simp only[AC,Instr.fill,hp]
    have hsz:(a.eval x).cells.size=sz:=by rw[<-lv,BN]
    rw[At (by simp[hsz];omega)]
    have hz:(Array.foldl (λcs (x:Value×Nat)=>cs.setIfInBounds (off+x.2) x.1) arr (a.eval x).cells.zipIdx)=(us1++((a.eval x).cells.toList++us4)).toArray:=by
     rw[<-Array.foldl_toList,Array.toList_zipIdx]
     exact hset
    rw[<-hf]
    congr 1
   ·cases e
end
end
section
section
variable {P:Program}{nt:Nat}{base:Bs}{bx:zN}{St St' St0:Nat->Nat->Prop}{B:Nat->zN}{hand:zN}{σ σ':PS}{a:Act}{w w' w0:World}{K:PS->Prop}{Q:Exit->Act->World->Prop}{o:Oper}
theorem Yz(parts:Array (Nat×Operand))(f:Operand->Value):(parts.map λ(i,x)=>(i,f x)).toList=parts.toList.map λp=>(p.1,f p.2):=by simp
theorem bZ(fs:List Field)(hp:∀f∈fs,0 < QS P f.type):(fs.mapM λf=>do pure (f.offset,<-Go.sizeOf f.type):Sem (List (Nat×Nat))).run P w=.ok (fs.map λf=>(f.offset,QS P f.type)) w:=by
 induction fs with
 |nil=>rfl
 |cons f fs ih=>
  have h1:(Go.sizeOf f.type).run P w=.ok (QS P f.type) w:=by
   have:=hp f (by simp)
   unfold QS at *
   cases hi:P.info? f.type with
   |none=>rw[hi]at this;simp at this
   |some i=>simp[Go.sizeOf,typeInfo,hi]
  simp only[List.mapM_cons,A6,h1,AM,BA,ih (λf hf=>hp f (by simp[hf]))]
  rfl
theorem jp{tb:Tb}(htb:IG P tb){t:TypeId}{n:Nat}{z:List V}{fs:List (Nat×Nat)}{parts:Array (Nat×Operand)}{d:Nat}{cs:List V}(hop:o.op=.build t parts)(ht:tb t=some (.st n z fs))
  (hf:OG (λi=>fs[i]?) parts.toList σ z=some (σ',cs)) (ho:o.dst=some d) (hd:d < nt) (hx:d∉bx) (hk:K (upd σ' d (.agg cs))):RD P nt bx base St0 w0 o σ K:=by
 rintro a w Q ⟨St,B,h,hb,hst,hz⟩
 obtain⟨i,arr,gs,hi,_,hzv,hzl,hu,hfs,hpos,_⟩:=htb _ _ ht
 obtain⟨B',hand',arr',bs',h1,h2,h3,h4,h5⟩:=ZC (λi=>fs[i]?) parts.toList σ σ' B [] z cs arr [] h (hzl w St) AG (by simp) hf
 have hpl:(gs.mapM λf=>do pure (f.offset,<-Go.sizeOf f.type):Sem (Array (Nat×Nat))).run P w=.ok fs.toArray w:=by
  have:=bZ (P:=P) (w:=w) gs.toList (λf hf=>by
   have:=hpos (f.offset,QS P f.type) (by rw[<-hfs];exact CE hf)
   exact this)
  rw[hfs]at this
  rw[G3,Sem.run_map,this]
  rfl
 have hr:(execOp a.eval o).run P w=.ok (.value (.agg arr')) w:=by
  have hzr:(zeroValue t).run P w=.ok (.agg arr) w:=by simp[zeroValue,typeInfo,hi,hzv]
  have hfill:Instr.fill (λx=>fs.toArray[x]?) (Value.agg arr).cells (parts.map λ(i,x)=>(i,a.eval x)).toList=some arr':=by
   rw[Yz]
   have:(λ(x:Nat)=>fs.toArray[x]?)=λ(i:Nat)=>fs[i]?:=by funext x;simp
   rw[this];exact h1
  simp only[execOp,hop,Instr.build,A6,hzr,AM,Bp hu,hpl,hfill,BA]
 have hv:Ow P w St (.agg cs) (.agg arr') bs':=⟨arr'.toList,by simp,h3⟩
 refine Kr hr ⟨_,hk,St,upd B' d bs',?_,hb,hst,hz⟩
 rw[ho]
 exact h2.put hd hx hv.slot h4 h5 hv.Do.1 hv.Oa
def PM(ez:List V)(es n:Nat):List V:=(List.range (n * es)).map λi=>ez.getD (i % es) .undef
theorem YH:∀(cs:List V) (us:List Value),cs.length=us.length->(∀(j:Nat) (c:V) (u:Value),cs[j]? =some c->us[j]? =some u->c.Ds=true∧Ow P w St c u [])->A7 P w St cs us []
 |[],us,hl,_=>⟨A1 hl.symm,rfl⟩
 |c::cs,[],hl,_=>by simp at hl
 |c::cs,u::us,hl,h=>by
  obtain⟨h1,h2⟩:=h 0 c u rfl rfl
  exact⟨u,us,[],[],rfl,rfl,h1,h2,YH cs us (by simpa using hl) (λj x y hx hy=>h (j+1) x y (by simpa using hx) (by simpa using hy))⟩
theorem YI:∀{cs:List V}{us:List Value},A7 P w St cs us []->∀(j:Nat) (c:V) (u:Value),cs[j]? =some c->us[j]? =some u->c.Ds=true∧Ow P w St c u []
 |[],_,_,j,c,u,hc,_=>by simp at hc
 |d::cs,_,⟨x,us',b1,b2,e1,e2,hc,h1,h2⟩,j,c,u,ec,eu=>by
  have hb:b1=[]∧b2=[]:=by simpa using e2.symm
  obtain⟨rfl,rfl⟩:=hb
  cases j with
  |zero=>
   rw[e1]at eu
   simp only[B6,Ap]at ec eu
   subst ec eu
   exact⟨hc,h1⟩
  |succ j=>rw[e1]at eu;exact YI h2 j c u (by simpa using ec) (by simpa using eu)
theorem aC{ez:List V}{us:Array Value}(hz:A7 P w St ez us.toList []){es:Nat}(hes:0 < es)(hl:ez.length=es)(n:Nat):A7 P w St (PM ez es n) ((Array.range (n * es)).map (us[· % us.size]!)).toList []:=by
 have hlu:us.size=es:=by rw[<-hl,<-hz.length,BN]
 refine YH _ _ (by simp[PM]) (λj c u hc hu=>?_)
 have hj:j < n * es:=by
  rcases A9 j (n * es)with h|h
  ·exact h
  ·rw[A2 (by simp[PM];omega)]at hc;cases hc
 have hm:j % es < es:=Nat.mod_lt _ hes
 have e1:ez[j % es]? =some c:=by
  simp only[PM,AW,DS hj,B8,Ap]at hc
  rw[<-hc,Ac (by omega),Af,Ac (by omega)]
  rfl
 have e2:us.toList[j % es]? =some u:=by
  simp only[Hp,Array.toList_range,AW,DS hj,B8,Ap]at hu
  rw[<-hu,hlu]
  simp[hlu,hm]
 exact YI hz (j % es) c u e1 e2
theorem Zu{t e:TypeId}{es eb:Nat}{ez:List V}(h:M1 P t (.sl e es eb ez)):QS P e=es:=by
 obtain⟨i,j,zv,_,_,_,_,hj,_,hes,_⟩:=h
 simp[QS,hj,hes]
theorem Xq{e:TypeId}{es n d:Nat}{cs:List V}{arr:Array Value}{bs:zN}(hcsz:QS P e=es)(hes0:0 < es)(h2:HSim P nt bx base St B hand σ a w)(h3:A7 P w St cs arr.toList bs)(h4:bs.Nodup)(h5:∀g∈bs,g∈hand)
  (hb:BelowK base.K w0 w) (hst:∀b o,base b->(St b o↔St0 b o)) (hz:∀b,base b->b < w.heap.size) (hcs:cs.length=n * es) (hnl:n<=lim) (hd:d < nt) (hx:d∉bx):
  Rel P nt bx base St0 w0 (upd σ d (.own e n cs)) (a.put (some d) (.slice (some ⟨w.heap.size,0,none⟩) n n)) (w.alloc (.cells arr e)):=by
 have hsz:arr.size=n * es:=by rw[<-BN,h3.length,hcs]
 have hm:n<=maxLen:=by unfold maxLen;unfold lim at hnl;omega
 have hst1:∀b o,b < w.heap.size->((St b o∨(b=w.heap.size∧o < n * es))↔St b o):=λb o hlt=>⟨λh=>h.elim id (λh=>by omega),.inl⟩
 have h6:=h2.alloc (St':=λb o=>St b o∨(b=w.heap.size∧o < n * es)) hz (.cells arr e) hst1 (λb o hs=>by
  rcases hs with hs|hs
  ·exact Eg (h2.st b o hs)
  ·omega)
 have h7:=Vu (St':=λb o=>St b o∨(b=w.heap.size∧o < n * es)) h2 h3 h5 (.cells arr e) hst1
 have hgn:w.heap.size∉bs:=λhm=>by have:=(h2.hrange _ (h5 _ hm)).2;omega
 have hv:Ow P (w.alloc (.cells arr e)) (λb o=>St b o∨(b=w.heap.size∧o < n * es)) (.own e n cs) (.slice (some ⟨w.heap.size,0,none⟩) n n) (w.heap.size::bs):=by
  refine⟨hnl,arr.toList,bs,?_,h7,rfl,?_,?_⟩
  ·rw[hcsz];exact World.ownsRow_lit w arr n (CB _) hm hsz
  ·intro g hg o'
   simp only[Value.ownBlock,Ap]at hg
   subst hg
   rw[hcsz]
   exact⟨λh'=>h'.elim (λh'=>absurd (h2.st _ _ h') (by omega)) (·.2),λh'=>.inr ⟨rfl,h'⟩⟩
  ·intro hn0;subst hn0;exact A1 (by simpa using hcs)
 refine⟨(λb o=>St b o∨(b=w.heap.size∧o < n * es)),upd B d (w.heap.size::bs),?_,hb.alloc hz _,?_,Uo hz _⟩
 ·exact h6.put hd hx hv.slot (Bw.2 ⟨hgn,h4⟩) (by
   intro g hg
   rcases AB.1 hg with rfl|hg
   ·simp
   ·exact Az _ (h5 g hg)) hv.Do.1 hv.Oa
 ·intro b o' hlt
  rw[<-hst b o' hlt]
  exact hst1 b o' (hz b hlt)
theorem Xh{tb:Tb}(htb:IG P tb){t e:TypeId}{es eb n:Nat}{ez:List V}{parts:Array (Nat×Operand)}{d:Nat}{cs:List V}(hop:o.op=.buildSlice t n parts)(ht:tb t=some (.sl e es eb ez))
  (hn:n * es<=16777216) (hf:OG (λi=>some (i * es,es)) parts.toList σ (PM ez es n)=some (σ',cs)) (hcs:cs.length=n * es) (ho:o.dst=some d) (hd:d < nt) (hx:d∉bx) (hk:K (upd σ' d (.own e n cs))):RD P nt bx base St0 w0 o σ K:=by
 rintro a w Q ⟨St,B,h,hb,hst,hz⟩
 have hcsz:=Zu (htb _ _ ht)
 obtain⟨i,j,zv,hi,_,_,hu,hj,hjz,hes,heb,hzl,hlz,hes0,_⟩:=htb _ _ ht
 have hrow:=aC (hzl w St) hes0 hlz n
 obtain⟨B',hand',arr',bs',h1,h2,h3,h4,h5⟩:=ZC (λi=>some (i * es,es)) parts.toList σ σ' B [] (PM ez es n) cs ((Array.range (n * es)).map (zv.cells[· % zv.cells.size]!)) [] h hrow AG (by simp) hf
 have hr:(execOp a.eval o).run P w=.ok (.value (.slice (some ⟨w.heap.size,0,none⟩) n n)) (w.alloc (.cells arr' e)):=by
  have hsz:(Go.sizeOf e).run P w=.ok es w:=by simp[Go.sizeOf,typeInfo,hj,hes]
  have hzr:(zeroValue e).run P w=.ok zv w:=by simp[zeroValue,typeInfo,hj,hjz]
  have hgt:¬(n * es > 2 ^ 24):=by omega
  have hmp:(parts.map λ(i,x)=>(i,a.eval x)).toList=parts.toList.map λp=>(p.1,a.eval p.2):=Yz _ _
  by_cases h0:n * es=0
  ·have e1:∀f:Nat->Value,(Array.range (n * es)).map f= #[]:=by intro f;rw[h0];simp
   rw[e1]at h1
   simp only[execOp,hop,Instr.buildSlice,A6,AM,Bp hu,hsz,hgt,Dz,Av h0,e1,hmp,h1,BA,newRow,run_newObj]
   rfl
  ·simp only[execOp,hop,Instr.buildSlice,A6,AM,Bp hu,hsz,hgt,Dz,At h0,hzr,hmp,h1,BA,newRow,run_newObj]
   rfl
 refine Kr hr ⟨_,hk,?_⟩
 rw[ho]
 exact Xq hcsz hes0 h2 h3 h4 h5 hb hst hz hcs (by unfold lim;have:n<=n * es:=EJ _ hes0;omega) hd hx
theorem mn{tb:Tb}(htb:IG P tb){t e:TypeId}{es eb:Nat}{ez:List V}{x y:Operand}{d n:Nat}{k k':IntKind}(hop:o.op=.makeSlice t x y)(ht:tb t=some (.sl e es eb ez))(h1:Co σ x=.int k n)(h2:Co σ y=.int k' n)(hn:n<=lim)
  (ho:o.dst=some d) (hd:d < nt) (hx:d∉bx) (hk:K (upd σ d (.own e n (PM ez es n)))):RD P nt bx base St0 w0 o σ K:=by
 rintro a w Q ⟨St,B,h,hb,hst,hz⟩
 have hcsz:=Zu (htb _ _ ht)
 obtain⟨i,j,zv,hi,_,_,hu,hj,hjz,hes,heb,hzl,hlz,hes0,heb0,heb1⟩:=htb _ _ ht
 have hrow:=aC (hzl w St) hes0 hlz n
 have e1:a.eval x=.int k n:=by obtain⟨b,hx⟩:=Ld h x;rw[h1]at hx;exact FR hx
 have e2:a.eval y=.int k' n:=by obtain⟨b,hy⟩:=Ld h y;rw[h2]at hy;exact FR hy
 have hr:(execOp a.eval o).run P w=.ok (.value (.slice (some ⟨w.heap.size,0,none⟩) n n)) (w.alloc (.cells ((Array.range (n * es)).map (zv.cells[· % zv.cells.size]!)) e)):=by
  have hbig:(j.bytes:Int) * (n:Int)<=281474976710656:=by
   rw[heb]
   have h3:eb * n<=128 * 1099511627776:=BC heb1 hn
   have h4:((eb * n:Nat):Int)=(eb:Int) * n:=by simp
   rw[<-h4]
   omega
  have h5:=run_make (P:=P) w t e j zv hu hj hjz k k' n n (by omega) (Int.le_refl _) hbig (by unfold lim at hn;omega)
  simp only[AL,hes]at h5
  simp only[execOp,hop,e1,e2,A6,h5,AM,BA]
  rfl
 refine Kr hr ⟨_,hk,?_⟩
 rw[ho]
 exact Xq hcsz hes0 h hrow AG (by simp) hb hst hz (by simp[PM]) hn hd hx
def TW:V->List V
 |.own _ _ ds=>ds
 |.dat _ ds=>ds.map QT
 |.arg _ ds=>ds.map QT
 |.pin _ _ ds=>ds.map QT
 |_=>[]
theorem n7{c:V}{v:Value}{bs:zN}{m es:Nat}{ds:List V}(h:Ow P w St c v bs)(hc:J7 c=some (m,ds))(hl:ds.length=m * es)(hes:0 < es)(hn:bs.Nodup):
  ∃us b2,M2 w es v m us∧A7 P w St (TW c) us b2∧b2.Nodup∧∀g∈b2,g∈bs:=by
 have key:∀us:List Value,Rd w St (.dat m ds) v->us.length=ds.length->(∀b off A cp,v=.slice A m cp->A=some ⟨b,off,none⟩->Dp w St b off ds->∀(j:Nat) (u:Value),us[j]? =some u->w.cell? ⟨b,off+j,none⟩=some u)->M2 w es v m us:=by
  intro us hr hlu hcell
  obtain⟨hm,A,cp,rfl,_,hrow,h0⟩:=hr
  refine⟨A,cp,rfl,by unfold maxLen at hm;omega,by rw[hlu,hl],λhp=>?_⟩
  obtain⟨b,off,rfl,hrr⟩:=hrow hp
  exact⟨b,off,rfl,hcell b off _ cp rfl rfl hrr⟩
 cases c with
 |own e n cs=>
  simp only[J7,Ap,B3]at hc
  obtain⟨rfl,rfl⟩:=hc
  have hrd:=Ow.rd _ h rfl
  obtain⟨hm,xs,bs',h1,h2,h3,h4,h5⟩:=h
  refine⟨xs,bs',?_,h2,?_,?_⟩
  ·have hx:=M2.P9 h1
   obtain⟨A,cp,e1,e2,e3,e4⟩:=hx
   exact⟨A,cp,e1,e2,by rw[h2.length,hl],e4⟩
  ·rw[h3]at hn;exact(Aq.1 hn).2.1
  ·intro g hg;rw[h3];exact Ar _ hg
 |dat n cs=>
  simp only[J7,Ap,B3]at hc
  obtain⟨rfl,rfl⟩:=hc
  obtain⟨rfl,hr⟩:=h
  have hr':=hr
  obtain⟨hm,A,cp,rfl,hcp,hrow,h0⟩:=hr
  rcases Bv n with hz|hp
  ·have:=h0 hz
   subst this
   subst hz
   exact⟨[],[],⟨A,cp,rfl,by omega,by simp,λh=>absurd h (by omega)⟩,⟨rfl,rfl⟩,AG,by simp⟩
  ·obtain⟨b,off,rfl,hrr⟩:=hrow hp
   obtain⟨us,h3,h4⟩:=hrr.list
   refine⟨us,[],⟨_,cp,rfl,by unfold maxLen at hm;omega,by rw[h3.length,hl],λ_=>⟨b,off,rfl,h4⟩⟩,A7.mf _ h3,AG,by simp⟩
 |arg n cs=>
  have hr:Rd w St (.dat m ds) v:=Kl (P:=P) (t:=λ_=>.bool true) hc h.slot
  simp only[J7,Ap,B3]at hc
  obtain⟨rfl,rfl⟩:=hc
  obtain⟨rfl,_⟩:=h
  have hr':=hr
  obtain⟨hm,A,cp,rfl,hcp,hrow,h0⟩:=hr
  rcases Bv n with hz|hp
  ·have:=h0 hz
   subst this
   subst hz
   exact⟨[],[],⟨A,cp,rfl,by omega,by simp,λh=>absurd h (by omega)⟩,⟨rfl,rfl⟩,AG,by simp⟩
  ·obtain⟨b,off,rfl,hrr⟩:=hrow hp
   obtain⟨us,h3,h4⟩:=hrr.list
   refine⟨us,[],⟨_,cp,rfl,by unfold maxLen at hm;omega,by rw[h3.length,hl],λ_=>⟨b,off,rfl,h4⟩⟩,A7.mf _ h3,AG,by simp⟩
 |pin u n cs=>
  have hr:Rd w St (.dat m ds) v:=Kl (P:=P) (t:=λ_=>.bool true) hc h.slot
  simp only[J7,Ap,B3]at hc
  obtain⟨rfl,rfl⟩:=hc
  obtain⟨rfl,_⟩:=h
  have hr':=hr
  obtain⟨hm,A,cp,rfl,hcp,hrow,h0⟩:=hr
  rcases Bv n with hz|hp
  ·have:=h0 hz
   subst this
   subst hz
   exact⟨[],[],⟨A,cp,rfl,by omega,by simp,λh=>absurd h (by omega)⟩,⟨rfl,rfl⟩,AG,by simp⟩
  ·obtain⟨b,off,rfl,hrr⟩:=hrow hp
   obtain⟨us,h3,h4⟩:=hrr.list
   refine⟨us,[],⟨_,cp,rfl,by unfold maxLen at hm;omega,by rw[h3.length,hl],λ_=>⟨b,off,rfl,h4⟩⟩,A7.mf _ h3,AG,by simp⟩
 |_=>cases hc
theorem Xg{tb:Tb}(htb:IG P tb){t e:TypeId}{es eb:Nat}{ez:List V}{x y:Operand}{d n m:Nat}{cs ds:List V}(hop:o.op=.call {callee:=.builtin .append,args:= #[x,y],argTypes:= #[t,t]})(ht:tb t=some (.sl e es eb ez))
  (h1:Co σ x=.own e n cs) (h2:J7 (Co (CO σ x) y)=some (m,ds)) (hds:ds.length=m * es) (hlim:n+m<=lim) (ho:o.dst=some d) (hd:d < nt) (hx:d∉bx)
  (hk:K (upd (CO (CO σ x) y) d (.own e (n+m) (cs++TW (Co (CO σ x) y))))):RD P nt bx base St0 w0 o σ K:=by
 rintro a w Q ⟨St,B,h,hb,hst,hz⟩
 have hcsz:=Zu (htb _ _ ht)
 obtain⟨i,j,zv,hi,_,_,hu,hj,hjz,hes,heb,hzl,hlz,hes0,heb0,heb1⟩:=htb _ _ ht
 obtain⟨b1,B1,w1,q1,n1⟩:=Rj h x (by rw[h1];rfl)
 rw[Bl]at q1 n1
 have hyv:(Co (CO σ x) y).isVal=true:=by cases hc:Co (CO σ x) y<;>rw[hc]at h2<;>first|rfl|cases h2
 obtain⟨b2,B2,w2,q2,n2⟩:=Rj q1 y hyv
 rw[h1]at w1
 obtain⟨hnl,xs,bs1,r1,r2,r3,r4,r5⟩:=w1
 rw[hcsz]at r1 r4
 have n12:=Aq.1 n2
 obtain⟨us,b3,s1,s2,s3,s4⟩:=n7 w2 h2 hds hes0 n12.2.1
 have hzs:zv.cells.size=es:=by rw[<-hlz,<-(hzl w St).length,BN]
 have hbytes:(n+m) * eb<=140737488355328:=BD (BC hlim heb1) (by unfold lim;omega)
 obtain⟨v',w',hrun,o1,o2,o3,o4⟩:=mY (P:=P) w t o.type e zv es eb hu (by simp[hj,hjz,hes,heb]) hzs hes0 heb0 (a.eval x) n xs r1 (a.eval y) m us s1 ((A7.rdL _ s2).oneCell) hbytes
 have hr:(execOp a.eval o).run P w=.ok (.value v') w':=by
  simp only[execOp,hop,resolve,invoke,builtin,A6,BA,AM,Hv,AC,DX,hrun]
 have hxb:∀g,(a.eval x).ownBlock=some g->g∈b1:=λg hg=>by rw[r3,hg];simp
 have hext:Ext St w w':=by
  intro b o' hs
  by_cases e1:some b=(a.eval x).ownBlock
  ·exact o4 b e1.symm o' ((r4 b e1.symm o').1 hs)
  ·exact BS (o2.block b (h.st b o' hs) e1)
 have hst1:∀g,g < w.heap.size->(∀q,(a.eval x).ownBlock=some q->g≠q)->∀o',(St g o'∨(v'.ownBlock=some g∧o' < (n+m) * es))↔St g o':=by
  intro g hg hq o'
  refine⟨λhh=>hh.elim id (λhh=>?_),.inl⟩
  rcases o3 with e1|e1
  ·rw[hh.1]at e1;exact absurd rfl (hq g e1.symm)
  ·rw[hh.1]at e1;simp only[Ap]at e1;omega
 have hheap:∀g,g < w.heap.size->(∀q,(a.eval x).ownBlock=some q->g≠q)->w'.heap[g]? =w.heap[g]?:=λg hg hq=>o2.block g hg (λe1=>hq g e1.symm rfl)
 have h3:=q2.world (w':=w') (St':=λb o'=>St b o'∨(v'.ownBlock=some b∧o' < (n+m) * es)) (λb o' hs=>.inl hs) hext o2.size
  (λs g hg=>by
   have hlt:=(q2.range s g hg).2
   have hne:∀q,(a.eval x).ownBlock=some q->g≠q:=λq hq e1=>q2.hapart s g hg (Az _ (e1 ▸ hxb q hq))
   exact⟨hheap g hlt hne,hst1 g hlt hne⟩)
  (λb o' hs=>by
   rcases hs with hs|hs
   ·exact Bo (h.st b o' hs) o2.size
   ·exact(o1.lt b hs.1).2)
 have hn1:((a.eval x).ownBlock.toList++bs1).Nodup:=by rw[<-r3];exact n12.1
 have hn1':=Aq.1 hn1
 have hrng:∀g,g∈b1++b2->g < w.heap.size:=λg hg=>(q2.hrange g hg).2
 have hbs1:∀g∈bs1,g∈b1:=λg hg=>by rw[r3];exact Ar _ hg
 have hne1:∀g∈bs1,∀q,(a.eval x).ownBlock=some q->g≠q:=λg hg q hq e1=>hn1'.2.2 q (by rw[hq];simp) g hg e1.symm
 have hne3:∀g∈b3,∀q,(a.eval x).ownBlock=some q->g≠q:=λg hg q hq e1=>n12.2.2 q (hxb q hq) g (s4 g hg) e1.symm
 have t1:=A7.mono (w':=w') (St':=λb o'=>St b o'∨(v'.ownBlock=some b∧o' < (n+m) * es)) (λb o' hs=>.inl hs) hext _ r2 (λg hg=>by
  have hlt:=hrng g (Az _ (hbs1 g hg))
  exact⟨hheap g hlt (hne1 g hg),hst1 g hlt (hne1 g hg)⟩)
 have t2:=A7.mono (w':=w') (St':=λb o'=>St b o'∨(v'.ownBlock=some b∧o' < (n+m) * es)) (λb o' hs=>.inl hs) hext _ s2 (λg hg=>by
  have hlt:=hrng g (Ar _ (s4 g hg))
  exact⟨hheap g hlt (hne3 g hg),hst1 g hlt (hne3 g hg)⟩)
 have hv:Ow P w' (λb o'=>St b o'∨(v'.ownBlock=some b∧o' < (n+m) * es)) (.own e (n+m) (cs++TW (Co (CO σ x) y))) v' (v'.ownBlock.toList++(bs1++b3)):=by
  refine⟨hlim,xs++us,bs1++b3,by rw[hcsz];exact o1,t1.join t2,rfl,?_,?_⟩
  ·intro g hg o'
   rw[hcsz]
   refine⟨λhh=>?_,λhh=>.inr ⟨hg,hh⟩⟩
   rcases hh with hh|hh
   ·rcases o3 with e1|e1
    ·have:=(r4 g (by rw[<-e1];exact hg) o').1 hh
     exact Bo this (CA _ (by omega))
    ·rw[hg]at e1
     simp only[Ap]at e1
     have:=h.st g o' hh
     omega
   ·exact hh.2
  ·intro h0
   have hn0:n=0:=by omega
   have hm0:m=0:=by omega
   rw[r5 hn0]
   have hl0:us.length=0:=by
    obtain⟨_,_,_,_,hl0,_⟩:=s1
    rw[hl0,hm0];simp
   rw[s2.length]at hl0
   rw[A1 hl0]
   rfl
 have hnd3:(bs1++b3).Nodup:=Aq.2 ⟨hn1'.2.1,s3,λp hp q hq e1=>n12.2.2 p (hbs1 p hp) q (s4 q hq) e1⟩
 have fin:∀hand2,HSim P nt bx base (λb o'=>St b o'∨(v'.ownBlock=some b∧o' < (n+m) * es)) B2 hand2 (CO (CO σ x) y) a w'->(∀g∈v'.ownBlock.toList,g∈hand2)->(∀g∈b1++b2,g∈hand2)->(∀g∈v'.ownBlock.toList,g∉bs1++b3)->
   Rel P nt bx base St0 w0 (upd (CO (CO σ x) y) d (.own e (n+m) (cs++TW (Co (CO σ x) y)))) (a.put (some d) v') w':=by
  intro hand2 g1 g2 g3 g4
  refine⟨_,upd B2 d (v'.ownBlock.toList++(bs1++b3)),g1.put hd hx hv.slot ?_ ?_ hv.Do.1 hv.Oa,?_,?_,PR hz o2.size⟩
  ·refine Aq.2 ⟨by cases v'.ownBlock<;>simp,hnd3,λp hp q hq e1=>g4 p hp (e1 ▸ hq)⟩
  ·intro g hg
   rcases Al.1 hg with hg|hg
   ·exact g2 g hg
   ·rcases Al.1 hg with hg|hg
    ·exact g3 g (Az _ (hbs1 g hg))
    ·exact g3 g (Ar _ (s4 g hg))
  ·exact hb.grown o2 hz (λg hg=>(q2.hrange g (Az _ (hxb g hg))).1)
  ·intro b o' hlt
   rw[<-hst b o' hlt]
   exact hst1 b (hz b hlt) (λq hq e1=>(q2.hrange q (Az _ (hxb q hq))).1 (e1 ▸ hlt)) o'
 refine Kr hr ⟨_,hk,?_⟩
 rw[ho]
 rcases o3 with e1|e1
 ·refine fin (b1++b2) h3 (λg hg=>?_) (λ_ h=>h) (λg hg hm=>?_)
  ·rw[e1]at hg;rw[r3];exact Az _ (Az _ hg)
  ·rw[e1]at hg
   have hq:(a.eval x).ownBlock=some g:=by simpa using hg
   rcases Al.1 hm with hm|hm
   ·exact hne1 g hm g hq rfl
   ·exact hne3 g hm g hq rfl
 ·have hlt:=(o1.lt _ e1).2
  have h4:=h3.fresh (bs:=[w.heap.size]) (by simp) (by intro g hg;simp only[AP]at hg;subst hg;exact⟨lz hz,hlt⟩)
   (by intro s g hg hm;simp only[AP]at hm;have:=(q2.range s g hg).2;omega)
   (by intro g hg hm;simp only[AP]at hm;have:=hrng g hg;omega)
  refine fin _ h4 (λg hg=>?_) (λg hg=>Az _ hg) (λg hg hm=>?_)
  ·rw[e1]at hg;exact Ar _ (by simpa using hg)
  ·rw[e1]at hg
   have hq:g=w.heap.size:=by simpa using hg
   have:g < w.heap.size:=by
    rcases Al.1 hm with hm|hm
    ·exact hrng g (Az _ (hbs1 g hm))
    ·exact hrng g (Ar _ (s4 g hm))
   omega
end
end
section
section
variable {P:Program}{nt:Nat}{base:Bs}{bx:zN}{St St' St0:Nat->Nat->Prop}{B:Nat->zN}{hand:zN}{σ σ':PS}{a:Act}{w w' w0:World}{K:PS->Prop}{Q:Exit->Act->World->Prop}{o:Oper}
def kill(D:zN)(σ:PS):PS:=λs=>if D.contains s=true then .undef else match DI (σ s)with
 |some b=>if D.contains b=true then .undef else σ s
 |none=>σ s
theorem PQ(D:zN)(σ:PS)(s:Nat):kill D σ s=.undef∨kill D σ s=σ s:=by
 unfold kill
 split
 ·exact .inl rfl
 ·split
  ·split
   ·exact .inl rfl
   ·exact .inr rfl
  ·exact .inr rfl
theorem QY{D:zN}{σ:PS}{s:Nat}(h:D.contains s=true):kill D σ s=.undef:=by unfold kill;rw[Av h]
theorem bP{D:zN}{σ:PS}{s b:Nat}(h:DI (kill D σ s)=some b):DI (σ s)=some b∧D.contains b=false:=by
 rcases PQ D σ s with e|e
 ·rw[e]at h;cases h
 ·have h2:=h
  rw[e]at h2
  refine⟨h2,?_⟩
  unfold kill at h
  split at h
  ·cases h
  ·rw[h2]at h
   simp only at h
   split at h
   ·cases h
   ·rename_i hx;simpa using hx
theorem Yv{D:zN}{σ:PS}{s:Nat}{cs:List V}(h:CS (σ s)=some cs)(hd:D.contains s=false):kill D σ s=σ s:=by
 have hr:DI (σ s)=none:=by cases hs:σ s<;>rw[hs]at h<;>first|rfl|cases h
 unfold kill
 rw[At (by rw[hd];simp),hr]
theorem TC(D:zN)(h:HSim P nt bx base St B hand σ a w):∃B',HSim P nt bx base St B' hand (kill D σ) a w∧(∀s,D.contains s=true->B' s=[])∧(∀s,B' s=[]∨B' s=B s)∧∀s,D.contains s=false->kill D σ s=σ s->B' s=B s:=by
 have hex:∀s,∃b:zN,Cf P w St (tm a) (kill D σ s) (tm a s) b∧(b=[]∨b=B s)∧(D.contains s=true->b=[])∧(D.contains s=false->kill D σ s=σ s->b=B s):=by
  intro s
  rcases PQ D σ s with e|e
  ·exact⟨[],by rw[e];rfl,.inl rfl,λ_=>rfl,λ_ e2=>by
    have hs:=h.slot s
    rw[<-e2,e]at hs
    exact(show B s=[]from hs).symm⟩
  ·by_cases hd:D.contains s=true
   ·exact⟨[],by rw[QY hd];rfl,.inl rfl,λ_=>rfl,λe=>by rw[hd]at e;cases e⟩
   ·exact⟨B s,by rw[e];exact h.slot s,.inr rfl,λe=>absurd e hd,λ_ _=>rfl⟩
 obtain⟨B',hB⟩:=EI hex
 have h1:=λs=>(hB s).1
 have h2:=λs=>(hB s).2.1
 have hsub:∀s,∀g∈B' s,g∈B s:=by
  intro s g hg
  rcases h2 s with e|e
  ·rw[e]at hg;simp at hg
  ·rw[e]at hg;exact hg
 refine⟨B',?_,λs=>(hB s).2.2.1,h2,λs=>(hB s).2.2.2⟩
 exact
 {h with
  slot:=h1
  boxes:=λs cs e=>by
   rcases PQ D σ s with e'|e'
   ·rw[e']at e;cases e
   ·rw[e']at e;exact h.boxes s cs e
  crefs:=λs b e=>by
   obtain⟨e1,e2⟩:=bP e
   obtain⟨cs,hcs⟩:=h.crefs s b e1
   exact⟨cs,by rw[Yv hcs e2];exact hcs⟩
  nodup:=λs=>by
   rcases h2 s with e|e
   ·rw[e];exact AG
   ·rw[e];exact h.nodup s
  apart:=λs t hst g hg hg'=>h.apart s t hst g (hsub s g hg) (hsub t g hg')
  hapart:=λs g hg=>h.hapart s g (hsub s g hg)
  range:=λs g hg=>h.range s g (hsub s g hg)}
theorem Sw(D:zN)(h:HSim P nt bx base St B hand σ a w):∃B',HSim P nt bx base St B' hand (kill D σ) a w∧(∀s,D.contains s=true->B' s=[])∧∀s,B' s=[]∨B' s=B s:=
 let⟨B',h1,h2,h3,_⟩:=TC D h
 ⟨B',h1,h2,h3⟩
theorem zC{base:Bs}{St0:Nat->Nat->Prop}{w0 w:World}{a:Act}(D:zN)(hr:Rel P nt bx base St0 w0 σ a w):Rel P nt bx base St0 w0 (kill D σ) a w:=by
 obtain⟨St,B,h,hb,hst,hz⟩:=hr
 obtain⟨B',h',_⟩:=Sw D h
 exact⟨St,B',h',hb,hst,hz⟩
theorem HSim.giveUp(h:HSim P nt bx base St B hand σ a w)(p:Nat):∃B',HSim P nt bx base St B' (hand++B p) (kill [p] σ) a w∧B' p=[]:=by
 obtain⟨B',h',h1,h2⟩:=Sw [p] h
 have hsub:∀s,∀g∈B' s,g∈B s∧s≠p:=by
  intro s g hg
  have hne:s≠p:=λe=>by subst e;rw[h1 s (by simp)]at hg;simp at hg
  rcases h2 s with e|e
  ·rw[e]at hg;simp at hg
  ·rw[e]at hg;exact⟨hg,hne⟩
 exact⟨B',
 {h' with
  hnodup:=Aq.2 ⟨h.hnodup,h.nodup p,λx hx y hy e=>by subst e;exact h.hapart p x hy hx⟩
  hapart:=λs g hg hm=>by
   obtain⟨g1,g2⟩:=hsub s g hg
   rcases Al.1 hm with hm|hm
   ·exact h.hapart s g g1 hm
   ·exact h.apart s p g2 g g1 hm
  hrange:=λg hg=>by
   rcases Al.1 hg with hg|hg
   ·exact h.hrange g hg
   ·exact h.range p g hg},h1 p (by simp)⟩
theorem HSim.swap(h:HSim P nt bx base St B hand σ a w){s:Nat}(hx:s∈bx)(hno:∀q,DI (σ q)≠some s)(hB:B s=[]){c:V}{bs:zN}(hc:Cf P w St (tm a) c (tm a s) bs)(hrf:DI c=none)(hn:bs.Nodup)(hs:∀g∈bs,g∈hand):
  HSim P nt bx base St (upd B s bs) [] (upd σ s c) a w:=by
 refine
 {h with
  slot:=λq=>by
   by_cases e:q=s
   ·subst e;rw[upd_same,upd_same];exact hc
   ·rw[upd_ne _ _ e,upd_ne _ _ e];exact h.slot q
  boxes:=λq cs e=>by
   by_cases eq:q=s
   ·subst eq;exact hx
   ·rw[upd_ne _ _ eq]at e;exact h.boxes q cs e
  crefs:=λq b e=>by
   by_cases eq:q=s
   ·subst eq;rw[upd_same,hrf]at e;cases e
   ·rw[upd_ne _ _ eq]at e
    obtain⟨cs,hcs⟩:=h.crefs q b e
    exact⟨cs,by rw[upd_ne _ _ (λeb=>by subst eb;exact hno q e)];exact hcs⟩
  nodup:=λq=>by
   by_cases e:q=s
   ·subst e;rw[upd_same];exact hn
   ·rw[upd_ne _ _ e];exact h.nodup q
  apart:=λq r hqr g hg hg'=>by
   by_cases e:q=s
   ·subst e;rw[upd_same]at hg;rw[upd_ne _ _ (Ne.symm hqr)]at hg';exact h.hapart r g hg' (hs g hg)
   ·rw[upd_ne _ _ e]at hg
    by_cases e':r=s
    ·subst e';rw[upd_same]at hg';exact h.hapart q g hg (hs g hg')
    ·rw[upd_ne _ _ e']at hg';exact h.apart q r hqr g hg hg'
  hnodup:=AG
  hapart:=λ_ _ _=>by simp
  range:=λq g hg=>by
   by_cases e:q=s
   ·subst e;rw[upd_same]at hg;exact h.hrange g (hs g hg)
   ·rw[upd_ne _ _ e]at hg;exact h.range q g hg
  hrange:=by simp}
theorem eC{s:Nat}{e:TypeId}{n:Nat}{cs:List V}(hs:σ s=.uni e n cs)(hr:Rel P nt bx base St0 w0 σ a w):Rel P nt bx base St0 w0 (upd (kill [s] σ) s (.own e n cs)) a w:=by
 obtain⟨St,B,h,hb,hst,hz⟩:=hr
 have hsl:=h.slot s
 rw[hs]at hsl
 obtain⟨g,bs',arr,e1,e2,h1,hB,h2,hl,hlen⟩:=hsl
 have hx:s∈bx:=h.boxes s cs (by rw[hs];rfl)
 have hrg:=h.range s g (by rw[hB];simp)
 obtain⟨B1,h3,hB1⟩:=h.giveUp s
 rw[Bl,hB]at h3
 have hnd:(g::bs').Nodup:=by have:=h.nodup s;rw[hB]at this;exact this
 have hnd2:=Bw.1 hnd
 have hgB:∀q,∀k∈B1 q,k≠g:=λq k hk e=>h3.hapart q k hk (by rw[e];simp)
 have hsame:∀k,k≠g->∀o',(St k o'∨(k=g∧o' < n * QS P e))↔St k o':=λk hk o'=>⟨λhh=>hh.elim id (λhh=>absurd hh.1 hk),.inl⟩
 have h4:=h3.world (w':=w) (St':=λb o'=>St b o'∨(b=g∧o' < n * QS P e)) (λb o' hs=>.inl hs) (λ_ _ _=>rfl) (AT _) (λq k hk=>⟨rfl,hsame k (hgB q k hk)⟩) (λb o' hs=>by
  rcases hs with hs|hs
  ·exact h.st b o' hs
  ·rw[hs.1];exact hrg.2)
 have hrow:=A7.mono (w':=w) (St':=λb o'=>St b o'∨(b=g∧o' < n * QS P e)) (λb o' hs=>.inl hs) (λ_ _ _=>rfl) cs h1 (λk hk=>⟨rfl,hsame k (λe=>hnd2.1 (e ▸ hk))⟩)
 have harr:arr.size=n * QS P e:=by rw[<-BN,h1.length,hlen]
 have hv:Ow P w (λb o'=>St b o'∨(b=g∧o' < n * QS P e)) (.own e n cs) (tm a s) (g::bs'):=by
  refine⟨hl,arr.toList,bs',?_,hrow,by rw[e1];rfl,λk hk o'=>?_,λh0=>?_⟩
  ·rw[e1]
   refine⟨by rw[BN,harr],.inr ⟨g,n,arr,rfl,CB _,e2,AT _,?_,harr,?_⟩⟩
   ·unfold maxLen;unfold lim at hl;omega
   ·rw[<-harr,<-BN,BT]
  ·rw[e1]at hk
   simp only[Value.ownBlock,Ap]at hk
   subst hk
   exact⟨λhh=>hh.elim (λhh=>absurd hh (h2 o')) (·.2),λhh=>.inr ⟨rfl,hh⟩⟩
  ·subst h0;exact A1 (by simpa using hlen)
 have hno:∀q,DI (kill [s] σ q)≠some s:=λq hq=>by have:=(bP hq).2;simp at this
 refine⟨_,_,h4.swap hx hno hB1 hv.slot rfl hnd (λk hk=>hk),hb,?_,hz⟩
 intro b o' hlt
 rw[<-hst b o' hlt]
 exact hsame b (λe=>hrg.1 (e ▸ hlt)) o'
theorem jy{tb:Tb}(htb:IG P tb){t e:TypeId}{es eb:Nat}{ez:List V}{x y:Operand}{d n:Nat}{k k':IntKind}(hop:o.op=.makeSlice t x y)(ht:tb t=some (.sl e es eb ez))(h1:Co σ x=.int k n)(h2:Co σ y=.int k' n)(hn:n<=lim)
  (ho:o.dst=some d) (hd:d < nt) (hx:d∈bx) (hd0:N9+d∉bx) (hold:CS (σ d)=none) (hk:K (upd σ d (.uni e n (PM ez es n)))):RD P nt bx base St0 w0 o σ K:=by
 rintro a w Q ⟨St,B,h,hb,hst,hz⟩
 have hcsz:=Zu (htb _ _ ht)
 obtain⟨i,j,zv,hi,_,_,hu,hj,hjz,hes,heb,hzl,hlz,hes0,heb0,heb1⟩:=htb _ _ ht
 have hrow:=aC (hzl w St) hes0 hlz n
 have e1:a.eval x=.int k n:=by obtain⟨b,hx⟩:=Ld h x;rw[h1]at hx;exact FR hx
 have e2:a.eval y=.int k' n:=by obtain⟨b,hy⟩:=Ld h y;rw[h2]at hy;exact FR hy
 have hr:(execOp a.eval o).run P w=.ok (.value (.slice (some ⟨w.heap.size,0,none⟩) n n)) (w.alloc (.cells ((Array.range (n * es)).map (zv.cells[· % zv.cells.size]!)) e)):=by
  have hbig:(j.bytes:Int) * (n:Int)<=281474976710656:=by
   rw[heb]
   have h3:eb * n<=128 * 1099511627776:=BC heb1 hn
   have h4:((eb * n:Nat):Int)=(eb:Int) * n:=by simp
   rw[<-h4]
   omega
  have h5:=run_make (P:=P) w t e j zv hu hj hjz k k' n n (by omega) (Int.le_refl _) hbig (by unfold lim at hn;omega)
  simp only[AL,hes]at h5
  simp only[execOp,hop,e1,e2,A6,h5,AM,BA]
  rfl
 have h6:=h.alloc (St':=St) hz (.cells ((Array.range (n * es)).map (zv.cells[· % zv.cells.size]!)) e) (λ_ _ _=>Dx) (λb o hs=>Eg (h.st b o hs))
 have h7:=Vu (St':=St) h hrow (by simp) (.cells ((Array.range (n * es)).map (zv.cells[· % zv.cells.size]!)) e) (λ_ _ _=>Dx)
 refine Kr hr ⟨_,hk,St,upd B d [w.heap.size],?_,hb.alloc hz _,hst,Uo hz _⟩
 rw[ho]
 exact h6.Xo hd hx hd0 hold (c:=.uni e n (PM ez es n)) ⟨w.heap.size,[],_,rfl,alloc_heap_new w _,h7,rfl,λo hs=>absurd (h.st _ o hs) (by omega),hn,by rw[hcsz];simp[PM]⟩ (by simp) (by simp) rfl
theorem mm{p d:Nat}{e:TypeId}{n:Nat}{cs:List V}(hop:o.op=.assign (.tmp p)∨o.op=.move (.tmp p))(hs:σ p=.uni e n cs)(ho:o.dst=some d)(hd:d < nt)(hx:d∈bx)(hd0:N9+d∉bx)(hold:CS (kill [p] σ d)=none)(hk:K (upd (kill [p] σ) d (.uni e n cs))):RD P nt bx base St0 w0 o σ K:=by
 rintro a w Q ⟨St,B,h,hb,hst,hz⟩
 have hr:(execOp a.eval o).run P w=.ok (.value (tm a p)) w:=by rcases hop with e|e<;>simp[execOp,e]<;>rfl
 have hsl:=h.slot p
 rw[hs]at hsl
 obtain⟨B1,h3,hB1⟩:=h.giveUp p
 rw[Bl]at h3
 refine Kr hr ⟨_,hk,St,upd B1 d (B p),?_,hb,hst,hz⟩
 rw[ho]
 exact h3.Xo hd hx hd0 hold (c:=.uni e n cs) hsl (h.nodup p) (λ_ h=>h) rfl
theorem jA{p d:Nat}{e:TypeId}{n:Nat}{cs:List V}(hop:o.op=.assign (.tmp p)∨o.op=.move (.tmp p))(hs:σ p=.uni e n cs)(ho:o.dst=some d)(hd:d < nt)(hx:d∉bx)(hk:K (upd (upd (kill [p] σ) p (.dat n cs)) d (.own e n cs))):RD P nt bx base St0 w0 o σ K:=by
 intro a w Q hr
 have h1:=eC hs hr
 have h2:Co (upd (kill [p] σ) p (.own e n cs)) (.tmp p)=.own e n cs:=by simp[Co,upd_same]
 have h3:CO (upd (kill [p] σ) p (.own e n cs)) (.tmp p)=upd (kill [p] σ) p (.dat n cs):=by
  simp only[CO,upd_same,dg,dg2,QT]
  funext q
  unfold upd
  split<;>rfl
 refine Xj (K:=K) (x:=.tmp p) hop ho hd hx (by rw[h2];rfl) ?_ a w Q h1
 rw[h2,h3]
 exact hk
end
end
section
section
variable {P:Program}{w:World}{St:Nat->Nat->Prop}
theorem Zy{c:V}{v:Value}(h:Rd w St (er c) v):Ow P w St (er c) v []∧(er c).Ds=true:=by
 cases c<;>first|exact⟨⟨rfl,h⟩,rfl⟩|exact h.elim
theorem kE:∀(cs:List V) {us:List Value},Oo w St (Mz cs) us->A7 P w St (Mz cs) us []
 |[],_,h=>⟨h,rfl⟩
 |c::cs,_,⟨u,us',e,h1,h2⟩=>⟨u,us',[],[],e,rfl,(Zy (P:=P) h1).2,(Zy h1).1,kE cs h2⟩
theorem tj{c:V}{v:Value}{bs:zN}(hc:c.isArg=true)(h:Ow P w St c v bs):Ow P w St (er c) v []:=by
 have hr:=(h.rda hc).erase
 cases c<;>first|(cases hc;done)|exact⟨rfl,hr⟩|skip
 obtain⟨us,e,hr⟩:=hr
 exact⟨us,e,kE _ hr⟩
theorem tn{c:V}(hc:c.isArg=true):CS (er c)=none∧DI (er c)=none∧c.isVal=true:=by
 cases c<;>first|(cases hc;done)|exact⟨rfl,rfl,rfl⟩
end
structure Kp (c c':V):Prop where
 rd:∀(P:Program) (w:World) (St:Nat->Nat->Prop) (t:Nat->Value) (v:Value) (bs:zN),Cf P w St t c v bs->bs.Nodup->∃bs',Cf P w St t c' v bs'∧(∀g∈bs',g∈bs)∧bs'.Nodup
 bx:(CS c').isSome=(CS c).isSome
 rf:∀b,DI c'=some b->DI c=some b
theorem kr{c:V}:Kp c c:=⟨λ_ _ _ _ _ bs h hn=>⟨bs,h,λ_ h=>h,hn⟩,rfl,λ_ h=>h⟩
theorem kd{c c':V}(h1:c.isVal=true)(h2:dg c=c'):Kp c c':=by
 subst h2
 refine⟨λP w St t v bs h hn=>⟨[],((h.ow h1).deg h1).slot,by simp,AG⟩,?_,λb h=>?_⟩
 ·rw[(U2 h1).1,(Rm h1).1]
 ·rw[(U2 h1).2]at h;cases h
theorem ke{c c':V}(h1:c.isArg=true)(h2:er c=c'):Kp c c':=by
 subst h2
 obtain⟨e1,e2,e3⟩:=tn h1
 refine⟨λP w St t v bs h hn=>⟨[],(tj h1 (h.ow e3)).slot,by simp,AG⟩,?_,λb h=>?_⟩
 ·rw[e1,(Rm e3).1]
 ·rw[e2]at h;cases h
def CW:List V->List V->Prop
 |[],cs'=>cs'=[]
 |c::cs,cs'=>∃d ds,cs'=d::ds∧(c=d∨(c.Ds=true∧(QT c=d∨er c=d)))∧CW cs ds
theorem cwn:CW [] []:=rfl
theorem cwr{c:V}{cs ds:List V}(h:CW cs ds):CW (c::cs) (c::ds):=⟨c,ds,rfl,.inl rfl,h⟩
theorem cwd{c d:V}{cs ds:List V}(h1:c.Ds=true)(h2:QT c=d)(h:CW cs ds):CW (c::cs) (d::ds):=⟨d,ds,rfl,.inr ⟨h1,.inl h2⟩,h⟩
theorem cwe{c d:V}{cs ds:List V}(h1:c.Ds=true)(h2:er c=d)(h:CW cs ds):CW (c::cs) (d::ds):=⟨d,ds,rfl,.inr ⟨h1,.inr h2⟩,h⟩
theorem kq:∀{a a' b b':List V},CW a a'->CW b b'->CW (a++b) (a'++b')
 |[],_,_,_,h,k=>by rw[show _=[]from h];exact k
 |c::a,_,_,_,⟨d,ds,e,hc,h⟩,k=>by rw[e];exact⟨d,ds++_,rfl,hc,kq h k⟩
theorem oG{α:Type}{f g:α->List V}(h:∀x,CW (f x) (g x)):∀l:List α,CW (l.flatMap f) (l.flatMap g)
 |[]=>rfl
 |x::l=>by rw[AH,AH];exact kq (h x) (oG h l)
theorem rK:∀cs:List V,cs.all V.Ds=true->CW cs (cs.map QT)
 |[],_=>rfl
 |c::cs,h=>by
  rw[Bz,Aa]at h
  exact cwd h.1 rfl (rK cs h.2)
theorem du{P:Program}{w:World}{St:Nat->Nat->Prop}:∀{cs cs':List V}{us:List Value}{bs:zN},CW cs cs'->A7 P w St cs us bs->bs.Nodup->∃bs',A7 P w St cs' us bs'∧(∀g∈bs',g∈bs)∧bs'.Nodup
 |[],_,_,bs,h,hr,hn=>by rw[show _=[]from h];exact⟨bs,hr,λ_ h=>h,hn⟩
 |c::cs,_,_,_,⟨d,ds,e,hc,hcs⟩,⟨u,us',b1,b2,e1,e2,hic,h1,h2⟩,hn=>by
  subst e e2
  obtain⟨n1,n2,n3⟩:=Aq.1 hn
  obtain⟨b2',q1,q2,q3⟩:=du hcs h2 n2
  have key:∃b1',d.Ds=true∧Ow P w St d u b1'∧(∀g∈b1',g∈b1)∧b1'.Nodup:=by
   rcases hc with rfl|⟨hcc,rfl|rfl⟩
   ·exact⟨b1,hic,h1,λ_ h=>h,n1⟩
   ·exact⟨[],TH hcc,h1.VU hcc,by simp,AG⟩
   ·have:=Zy (P:=P) (Rd.erase c (Ow.rd c h1 hcc))
    exact⟨[],this.2,this.1,by simp,AG⟩
  obtain⟨b1',k1,k2,k3,k4⟩:=key
  refine⟨b1'++b2',⟨u,us',b1',b2',e1,rfl,k1,k2,q1⟩,λg hg=>?_,Aq.2 ⟨k4,q3,λa ha b hb=>n3 a (k3 a ha) b (q2 b hb)⟩⟩
  rcases Al.1 hg with h|h
  ·exact Az _ (k3 g h)
  ·exact Ar _ (q2 g h)
theorem kb{cs cs':List V}(h:CW cs cs'):Kp (.box cs) (.box cs'):=by
 refine⟨?_,rfl,λb h=>by cases h⟩
 rintro P w St t v bs ⟨g,T,bs',arr,e1,e2,hr,rfl,hst⟩ hn
 obtain⟨h1,h2⟩:=Bw.1 hn
 obtain⟨b',q1,q2,q3⟩:=du h hr h2
 refine⟨g::b',⟨g,T,b',arr,e1,e2,q1,rfl,hst⟩,λx hx=>?_,Bw.2 ⟨λhm=>h1 (q2 _ hm),q3⟩⟩
 rcases AB.1 hx with rfl|hx
 ·simp
 ·exact AE _ (q2 x hx)
theorem ki{e:TypeId}{n:Nat}{cs cs':List V}(h:CW cs cs'):Kp (.own e n cs) (.own e n cs'):=by
 refine⟨?_,rfl,λb h=>by cases h⟩
 rintro P w St t v bs ⟨hl,xs,bs',hx,hr,rfl,hst,h0⟩ hn
 obtain⟨n1,n2,n3⟩:=Aq.1 hn
 obtain⟨b',q1,q2,q3⟩:=du h hr n2
 refine⟨v.ownBlock.toList++b',⟨hl,xs,b',hx,q1,rfl,hst,λhz=>?_⟩,λg hg=>?_,Aq.2 ⟨n1,q3,λa ha b hb=>n3 a ha b (q2 b hb)⟩⟩
 ·rw[h0 hz]at h;exact h
 ·rcases Al.1 hg with h|h
  ·exact Az _ h
  ·exact Ar _ (q2 g h)
section
variable {P:Program}{nt:Nat}{base:Bs}{bx:zN}{St0:Nat->Nat->Prop}{w0 w:World}{σ σ':PS}{a:Act}{K:PS->Prop}{o:Oper}
theorem mR(hw:∀s,σ' s=.undef∨Kp (σ s) (σ' s))(hf:∀s b,DI (σ' s)=some b->σ' b≠.undef)(hr:Rel P nt bx base St0 w0 σ a w):Rel P nt bx base St0 w0 σ' a w:=by
 obtain⟨St,B,h,hb,hst,hz⟩:=hr
 have hex:∀s,∃b:zN,Cf P w St (tm a) (σ' s) (tm a s) b∧(∀g∈b,g∈B s)∧b.Nodup:=by
  intro s
  rcases hw s with e|k
  ·exact⟨[],by rw[e];rfl,by simp,AG⟩
  ·exact k.rd P w St (tm a) (tm a s) (B s) (h.slot s) (h.nodup s)
 obtain⟨B',hB⟩:=EI hex
 have hsub:∀s,∀g∈B' s,g∈B s:=λs=>(hB s).2.1
 refine⟨St,B',?_,hb,hst,hz⟩
 exact
 {h with
  slot:=λs=>(hB s).1
  boxes:=λs cs e=>by
   rcases hw s with e'|k
   ·rw[e']at e;cases e
   ·have hb:=k.bx
    rw[e]at hb
    obtain⟨ds,hd⟩:=FD.1 hb.symm
    exact h.boxes s ds hd
  crefs:=λs b e=>by
   rcases hw s with e'|k
   ·rw[e']at e;cases e
   ·obtain⟨cs,hcs⟩:=h.crefs s b (k.rf b e)
    rcases hw b with e'|k'
    ·exact absurd e' (hf s b e)
    ·have hb:=k'.bx
     rw[hcs]at hb
     exact FD.1 hb
  nodup:=λs=>(hB s).2.2
  apart:=λs t hst g hg hg'=>h.apart s t hst g (hsub s g hg) (hsub t g hg')
  hapart:=λs g hg=>by simp
  range:=λs g hg=>h.range s g (hsub s g hg)}
theorem qr{d:Nat}{c':V}(hw:Kp (σ d) c')(hn:c'≠.undef)(hr:Rel P nt bx base St0 w0 σ a w)(hf:∀s b,DI (σ s)=some b->σ b≠.undef):Rel P nt bx base St0 w0 (upd σ d c') a w:=by
 refine mR (λs=>.inr ?_) (λs b e=>?_) hr
 ·by_cases e:s=d
  ·subst e;rw[upd_same];exact hw
  ·rw[upd_ne _ _ e];exact kr
 ·by_cases e2:b=d
  ·subst e2;rw[upd_same];exact hn
  ·rw[upd_ne _ _ e2]
   by_cases e1:s=d
   ·subst e1;rw[upd_same]at e;exact hf s b (hw.rf b e)
   ·rw[upd_ne _ _ e1]at e;exact hf s b e
theorem Y2{o:Oper}{a:Act}{K K':Act->World->Prop}{R:Exit->Act->World->Prop}(hk:∀a w,K a w->K' a w):∀r,o.upon P a K R r->o.upon P a K' R r:=by
 intro r h
 unfold Oper.upon at *
 split<;>simp only at h
 ·exact hk _ _ h
 ·exact hk _ _ h
 ·exact hk _ _ h
 ·refine Calls.mono h ?_
  rintro(v|c|_) w' h'
  ·exact hk _ _ h'
  ·exact h'
  ·exact h'
 ·exact Rows.mono h (λv w' h'=>hk _ _ h')
 ·exact h
theorem u6{σA:PS}{d:Nat}{c':V}(h:RD P nt bx base St0 w0 o σ (λσ'=>σ'=σA))(hw:Kp (σA d) c')(hn:c'≠.undef)(hk:K (upd σA d c')):RD P nt bx base St0 w0 o σ K:=by
 intro a w Q hr
 have h1:=h a w Q hr
 unfold Oper.wp at h1⊢
 refine Y2 (λa' w' hx=>?_) _ h1
 obtain⟨σ',e,hr'⟩:=hx
 subst e
 refine⟨_,hk,qr hw hn hr' (λs b e=>?_)⟩
 obtain⟨St,B,hs,_⟩:=hr'
 obtain⟨cs,hcs⟩:=hs.crefs s b e
 intro e2
 rw[e2]at hcs
 cases hcs
end
end
section
mutual
def deep:V->Bool
 |.tok _=>true
 |.int _ _=>true
 |.bool _=>true
 |.str _=>true
 |.own _ _ cs=>E1 cs
 |.agg cs=>E1 cs
 |_=>false
def E1:List V->Bool
 |[]=>true
 |c::cs=>deep c&&E1 cs
end
structure FrB (bs:zN) (w w':World):Prop where
 os:w'.os=w.os
 tape:w'.tape=w.tape
 output:w'.output=w.output
 size:w.heap.size<=w'.heap.size
 block:∀g,g < w.heap.size->g∉bs->w'.heap[g]? =w.heap[g]?
theorem FrB.refl(bs:zN)(w:World):FrB bs w w:=⟨rfl,rfl,rfl,AT _,λ_ _ _=>rfl⟩
theorem FrB.trans{bs:zN}{a b c:World}(h:FrB bs a b)(k:FrB bs b c):FrB bs a c:=
 ⟨k.os.trans h.os,k.tape.trans h.tape,k.output.trans h.output,BD h.size k.size,λg hg hb=>(k.block g (Bo hg h.size) hb).trans (h.block g hg hb)⟩
theorem FrB.more{bs bs':zN}{a b:World}(h:FrB bs a b)(hs:∀g∈bs,g∈bs'):FrB bs' a b:=⟨h.os,h.tape,h.output,h.size,λg hg hb=>h.block g hg (λhm=>hb (hs g hm))⟩
theorem FrB.set{bs:zN}{w:World}{g p:Nat}(hg:g∈bs)(u:Value):FrB bs w (w.setCell ⟨g,p,none⟩ u):=
 ⟨rfl,rfl,rfl,by simp[World.setCell],λk _ hk=>Below.heap_setCell _ _ _ _ (λe=>hk (by rw[e];exact hg))⟩
theorem FrB.below{bs:zN}{w w':World}(h:Below w.heap.size w w'):FrB bs w w':=⟨h.os,h.tape,h.output,h.size,λg hg _=>h.block g hg⟩
section
variable {P:Program}{w w':World}{St St':Nat->Nat->Prop}
mutual
theorem Ow.kept:∀(c:V) {v:Value}{bs:zN},deep c=true->Ow P w St c v bs->(∀g∈bs,w'.heap[g]? =w.heap[g]? ∧∀o,St' g o↔St g o)->Ow P w' St' c v bs
 |.tok _,_,_,_,⟨h1,h2⟩,_=>⟨h1,h2⟩
 |.int _ _,_,_,_,⟨h1,h2⟩,_=>⟨h1,h2⟩
 |.bool _,_,_,_,⟨h1,h2⟩,_=>⟨h1,h2⟩
 |.str _,_,_,_,⟨h1,h2⟩,_=>⟨h1,h2⟩
 |.own e n cs,v,bs,hd,⟨hn,xs,bs',h1,h2,h3,h4,h5⟩,hb=>by
  refine⟨hn,xs,bs',?_,A7.kept cs hd h2 (λg hg=>hb g (by rw[h3];exact Ar _ hg)),h3,λg hg o=>?_,h5⟩
  ·refine⟨h1.1,?_⟩
   rcases h1.2 with h|⟨g,cap,cur,rfl,hg,hh,r⟩
   ·exact .inl h
   ·exact .inr ⟨g,cap,cur,rfl,hg,by rw[(hb g (by rw[h3];simp[Value.ownBlock])).1];exact hh,r⟩
  ·rw[(hb g (by rw[h3,hg];simp)).2 o];exact h4 g hg o
 |.agg cs,_,_,hd,⟨us,e,h⟩,hb=>⟨us,e,A7.kept cs hd h hb⟩
 |.dat _ _,_,_,hd,_,_=>by cases hd
 |.arg _ _,_,_,hd,_,_=>by cases hd
 |.pin _ _ _,_,_,hd,_,_=>by cases hd
 |.tup _,_,_,hd,_,_=>by cases hd
 |.box _,_,_,hd,_,_=>by cases hd
 |.uni _ _ _,_,_,hd,_,_=>by cases hd
 |.same _,_,_,hd,_,_=>by cases hd
 |.val _ _,_,_,hd,_,_=>by cases hd
 |.cref _ _,_,_,hd,_,_=>by cases hd
 |.adr _ _,_,_,hd,_,_=>by cases hd
 |.gh _ _,_,_,hd,_,_=>by cases hd
 |.undef,_,_,hd,_,_=>by cases hd
theorem A7.kept:∀(cs:List V) {us:List Value}{bs:zN},E1 cs=true->A7 P w St cs us bs->(∀g∈bs,w'.heap[g]? =w.heap[g]? ∧∀o,St' g o↔St g o)->A7 P w' St' cs us bs
 |[],_,_,_,h,_=>h
 |c::cs,_,_,hd,⟨u,us',b1,b2,e1,e2,hc,h1,h2⟩,hb=>by
  have hd':deep c=true∧E1 cs=true:=by simpa[E1]using hd
  exact⟨u,us',b1,b2,e1,e2,hc,Ow.kept c hd'.1 h1 (λg hg=>hb g (by rw[e2];exact Az _ hg)),A7.kept cs hd'.2 h2 (λg hg=>hb g (by rw[e2];exact Ar _ hg))⟩
end
end
mutual
def Lq:V->Bool
 |.int _ _=>true
 |.bool _=>true
 |.str _=>true
 |.arg _ cs=>KR cs
 |.tok _=>true
 |_=>false
def KR:List V->Bool
 |[]=>true
 |c::cs=>Lq c&&KR cs
end
mutual
def Of:V->Bool
 |.tok _=>true
 |.int _ _=>true
 |.bool _=>true
 |.str _=>true
 |.own _ _ cs=>DA cs
 |.agg cs=>DA cs
 |.arg _ cs=>KR cs
 |_=>false
def DA:List V->Bool
 |[]=>true
 |c::cs=>Of c&&DA cs
end
mutual
theorem sI:∀{c:V},deep c=true->Of c=true
 |.tok _,_=>rfl
 |.int _ _,_=>rfl
 |.bool _,_=>rfl
 |.str _,_=>rfl
 |.own _ _ cs,h=>by rw[Of];exact Wl (by rw[deep]at h;exact h)
 |.agg cs,h=>by rw[Of];exact Wl (by rw[deep]at h;exact h)
 |.dat _ _,h=>by cases h
 |.arg _ _,h=>by cases h
 |.pin _ _ _,h=>by cases h
 |.tup _,h=>by cases h
 |.box _,h=>by cases h
 |.uni _ _ _,h=>by cases h
 |.same _,h=>by cases h
 |.val _ _,h=>by cases h
 |.cref _ _,h=>by cases h
 |.adr _ _,h=>by cases h
 |.gh _ _,h=>by cases h
 |.fn _,h=>by cases h
 |.undef,h=>by cases h
theorem Wl:∀{cs:List V},E1 cs=true->DA cs=true
 |[],_=>rfl
 |c::cs,h=>by
  rw[E1,Aa]at h
  rw[DA,sI h.1,Wl h.2];rfl
end
theorem nq{c:V}(h:Lq c=true):Of c=true:=by
 cases c with
 |arg n cs=>rw[Of];rw[Lq]at h;exact h
 |_=>first|rfl|cases h
theorem sdA:∀{cs:List V},KR cs=true->DA cs=true
 |[],_=>rfl
 |c::cs,h=>by
  rw[KR,Aa]at h
  rw[DA,nq h.1,sdA h.2];rfl
theorem Lg:∀{cs:List V},DA cs=true↔∀c∈cs,Of c=true
 |[]=>by simp[DA]
 |c::cs=>by rw[DA,Aa,Lg (cs:=cs)];simp
theorem sdF{α:Type}{f:α->List V}(h:∀x,DA (f x)=true)(l:List α):DA (l.flatMap f)=true:=Lg.2 λc hc=>by
 obtain⟨a,_,hc⟩:=Cj.1 hc
 exact Lg.1 (h a) c hc
def Th(c:V):Bool:=Of c
def J6:V->Bool
 |.undef=>true
 |.agg cs=>cs.all Th
 |.box cs=>cs.all Th
 |.cref _ _=>true
 |.same _=>true
 |.val _ _=>true
 |.own _ _ cs=>DA cs
 |.gh _ cs=>DA cs
 |.arg _ cs=>KR cs
 |.int _ _=>true
 |.bool _=>true
 |.str _=>true
 |.tok _=>true
 |_=>false
section
variable {P:Program}{w w':World}{St St':Nat->Nat->Prop}{bs:zN}
mutual
theorem Rd.jW(hf:FrB bs w w')(hl:∀g∈bs,∃o,¬St g o)(hst:∀b o,St b o->b < w.heap.size)(hS:∀k o,k∉bs->St k o->St' k o):∀(c:V) {v:Value},Lq c=true->Rd w St c v->Rd w' St' c v
 |.int _ _,_,_,h=>h
 |.bool _,_,_,h=>h
 |.str _,_,_,h=>h
 |.arg _ cs,_,hd,⟨hn,A,c,e,hc,h,h0⟩=>⟨hn,A,c,e,hc,λhp=>let⟨b,off,ea,hw,hr⟩:=h hp;⟨b,off,ea,λhne o=>hS b o (λhb=>let⟨o',ho⟩:=hl b hb;ho (hw hne o')) (hw hne o),Dp.jW hf hl hst hS b (cs0:=cs) (λhne hb=>let⟨o,ho⟩:=hl b hb;ho (hw hne o)) off cs hd (λh=>h) hr⟩,h0⟩
 |.own _ _ _,_,hd,_=>by cases hd
 |.dat _ _,_,hd,_=>by cases hd
 |.pin _ _ _,_,hd,_=>by cases hd
 |.agg _,_,hd,_=>by cases hd
 |.tup _,_,hd,_=>by cases hd
 |.box _,_,hd,_=>by cases hd
 |.uni _ _ _,_,hd,_=>by cases hd
 |.same _,_,hd,_=>by cases hd
 |.val _ _,_,hd,_=>by cases hd
 |.cref _ _,_,hd,_=>by cases hd
 |.adr _ _,_,hd,_=>by cases hd
 |.gh _ _,_,hd,_=>by cases hd
 |.tok _,_,_,h=>h
 |.undef,_,hd,_=>by cases hd
theorem Dp.jW(hf:FrB bs w w')(hl:∀g∈bs,∃o,¬St g o)(hst:∀b o,St b o->b < w.heap.size)(hS:∀k o,k∉bs->St k o->St' k o)(b:Nat){cs0:List V}(hb:cs0≠[]->b∉bs):∀(off:Nat) (cs:List V),KR cs=true->(cs≠[]->cs0≠[])->Dp w St b off cs->Dp w' St' b off cs
 |_,[],_,_,_=>trivial
 |off,c::cs,hd,hne,⟨⟨h1,u,hu,hr⟩,h2⟩=>by
  have hd':Lq c=true∧KR cs=true:=by simpa[KR]using hd
  have hnb:=hb (hne (by simp))
  exact⟨⟨hS b off hnb h1,u,(BS (w:=w) (hf.block b (hst b off h1) hnb)).trans hu,Rd.jW hf hl hst hS c hd'.1 hr⟩,Dp.jW hf hl hst hS b hb (off+1) cs hd'.2 (λ_=>hne (by simp)) h2⟩
end
mutual
theorem Ow.Q7:∀(c:V) {v:Value}{b:zN},deep c=true->Ow P w St c v b->∀g∈b,∃o,¬St g o
 |.tok _,_,_,_,h,g,hg=>by rw[h.1]at hg;cases hg
 |.int _ _,_,_,_,h,g,hg=>by rw[h.1]at hg;cases hg
 |.bool _,_,_,_,h,g,hg=>by rw[h.1]at hg;cases hg
 |.str _,_,_,_,h,g,hg=>by rw[h.1]at hg;cases hg
 |.own e n cs,v,b,hd,⟨hn,xs,bs',h1,h2,h3,h4,h5⟩,g,hg=>by
  rw[h3]at hg
  rcases Al.1 hg with hg|hg
  ·exact⟨n * QS P e,λhs=>absurd ((h4 g (by simpa using hg) _).1 hs) (H1 _)⟩
  ·exact A7.Q7 cs hd h2 g hg
 |.agg cs,_,_,hd,⟨us,e,h⟩,g,hg=>A7.Q7 cs hd h g hg
 |.dat _ _,_,_,hd,_,_,_=>by cases hd
 |.arg _ _,_,_,hd,_,_,_=>by cases hd
 |.pin _ _ _,_,_,hd,_,_,_=>by cases hd
 |.tup _,_,_,hd,_,_,_=>by cases hd
 |.box _,_,_,hd,_,_,_=>by cases hd
 |.uni _ _ _,_,_,hd,_,_,_=>by cases hd
 |.same _,_,_,hd,_,_,_=>by cases hd
 |.val _ _,_,_,hd,_,_,_=>by cases hd
 |.cref _ _,_,_,hd,_,_,_=>by cases hd
 |.adr _ _,_,_,hd,_,_,_=>by cases hd
 |.gh _ _,_,_,hd,_,_,_=>by cases hd
 |.undef,_,_,hd,_,_,_=>by cases hd
theorem A7.Q7:∀(cs:List V) {us:List Value}{b:zN},E1 cs=true->A7 P w St cs us b->∀g∈b,∃o,¬St g o
 |[],_,_,_,h,g,hg=>by rw[h.2]at hg;cases hg
 |c::cs,_,_,hd,⟨u,us',b1,b2,e1,e2,hc,h1,h2⟩,g,hg=>by
  have hd':deep c=true∧E1 cs=true:=by simpa[E1]using hd
  rw[e2]at hg
  rcases Al.1 hg with hg|hg
  ·exact Ow.Q7 c hd'.1 h1 g hg
  ·exact A7.Q7 cs hd'.2 h2 g hg
end
theorem oa{c:V}{v:Value}{b:zN}(hd:Lq c=true)(h:Ow P w St c v b):b=[]∧Rd w St c v:=by
 cases c<;>first|exact h|cases hd
theorem qd{c:V}{v:Value}(hd:Lq c=true)(h:Rd w St c v):Ow P w St c v []:=by
 cases c<;>first|exact⟨rfl,h⟩|cases hd
mutual
theorem Ow.R0(hf:FrB bs w w')(hl:∀g∈bs,∃o,¬St g o)(hst:∀b o,St b o->b < w.heap.size)(hS:∀k o,k∉bs->St k o->St' k o):∀(c:V) {v:Value}{b:zN},Of c=true->Ow P w St c v b->(∀g∈b,w'.heap[g]? =w.heap[g]? ∧∀o,St' g o↔St g o)->Ow P w' St' c v b
 |.tok _,_,_,_,⟨h1,h2⟩,_=>⟨h1,h2⟩
 |.int _ _,_,_,_,⟨h1,h2⟩,_=>⟨h1,h2⟩
 |.bool _,_,_,_,⟨h1,h2⟩,_=>⟨h1,h2⟩
 |.str _,_,_,_,⟨h1,h2⟩,_=>⟨h1,h2⟩
 |.own e n cs,v,b,hd,⟨hn,xs,bs',h1,h2,h3,h4,h5⟩,hb=>by
  refine⟨hn,xs,bs',?_,A7.R0 hf hl hst hS cs (by rw[Of]at hd;exact hd) h2 (λg hg=>hb g (by rw[h3];exact Ar _ hg)),h3,λg hg o=>by rw[(hb g (by rw[h3,hg];simp)).2 o];exact h4 g hg o,h5⟩
  refine⟨h1.1,?_⟩
  rcases h1.2 with h|⟨g,cap,cur,rfl,hg,hh,r⟩
  ·exact .inl h
  ·exact .inr ⟨g,cap,cur,rfl,hg,by rw[(hb g (by rw[h3];simp[Value.ownBlock])).1];exact hh,r⟩
 |.agg cs,_,_,hd,⟨us,e,h⟩,hb=>⟨us,e,A7.R0 hf hl hst hS cs (by rw[Of]at hd;exact hd) h hb⟩
 |.arg n cs,_,_,hd,h,_=>by
  have hd':Lq (.arg n cs)=true:=by rw[Lq];rw[Of]at hd;exact hd
  obtain⟨rfl,h2⟩:=oa hd' h
  exact qd hd' (Rd.jW hf hl hst hS _ hd' h2)
 |.dat _ _,_,_,hd,_,_=>by cases hd
 |.pin _ _ _,_,_,hd,_,_=>by cases hd
 |.tup _,_,_,hd,_,_=>by cases hd
 |.box _,_,_,hd,_,_=>by cases hd
 |.uni _ _ _,_,_,hd,_,_=>by cases hd
 |.same _,_,_,hd,_,_=>by cases hd
 |.val _ _,_,_,hd,_,_=>by cases hd
 |.cref _ _,_,_,hd,_,_=>by cases hd
 |.adr _ _,_,_,hd,_,_=>by cases hd
 |.gh _ _,_,_,hd,_,_=>by cases hd
 |.fn _,_,_,hd,_,_=>by cases hd
 |.undef,_,_,hd,_,_=>by cases hd
theorem A7.R0(hf:FrB bs w w')(hl:∀g∈bs,∃o,¬St g o)(hst:∀b o,St b o->b < w.heap.size)(hS:∀k o,k∉bs->St k o->St' k o):∀(cs:List V) {us:List Value}{b:zN},DA cs=true->A7 P w St cs us b->(∀g∈b,w'.heap[g]? =w.heap[g]? ∧∀o,St' g o↔St g o)->A7 P w' St' cs us b
 |[],_,_,_,h,_=>h
 |c::cs,_,_,hd,⟨u,us',b1,b2,e1,e2,hc,h1,h2⟩,hb=>by
  have hd':Of c=true∧DA cs=true:=by rw[DA,Aa]at hd;exact hd
  exact⟨u,us',b1,b2,e1,e2,hc,Ow.R0 hf hl hst hS c hd'.1 h1 (λg hg=>hb g (by rw[e2];exact Az _ hg)),A7.R0 hf hl hst hS cs hd'.2 h2 (λg hg=>hb g (by rw[e2];exact Ar _ hg))⟩
end
theorem YU(hf:FrB bs w w')(hl:∀g∈bs,∃o,¬St g o)(hst:∀b o,St b o->b < w.heap.size)(hS:∀k o,k∉bs->St k o->St' k o){c:V}{v:Value}{b:zN}(hs:Th c=true)(h:Ow P w St c v b)(hb:∀g∈b,w'.heap[g]? =w.heap[g]? ∧∀o,St' g o↔St g o):Ow P w' St' c v b:=Ow.R0 hf hl hst hS c hs h hb
theorem Xw(hf:FrB bs w w')(hl:∀g∈bs,∃o,¬St g o)(hst:∀b o,St b o->b < w.heap.size)(hS:∀k o,k∉bs->St k o->St' k o):∀(cs:List V) {us:List Value}{b:zN},cs.all Th=true->A7 P w St cs us b->(∀g∈b,w'.heap[g]? =w.heap[g]? ∧∀o,St' g o↔St g o)->A7 P w' St' cs us b
 |[],_,_,_,h,_=>h
 |c::cs,_,_,hs,⟨u,us',b1,b2,e1,e2,hc,h1,h2⟩,hb=>by
  simp only[Bz,Aa]at hs
  exact⟨u,us',b1,b2,e1,e2,hc,YU hf hl hst hS hs.1 h1 (λg hg=>hb g (by rw[e2];exact Az _ hg)),Xw hf hl hst hS cs hs.2 h2 (λg hg=>hb g (by rw[e2];exact Ar _ hg))⟩
theorem O0(hf:FrB bs w w')(hl:∀g∈bs,∃o,¬St g o)(hst:∀b o,St b o->b < w.heap.size)(hS:∀k o,k∉bs->St k o->St' k o){t:Nat->Value}{c:V}{v:Value}{b:zN}(hs:J6 c=true)(h:Cf P w St t c v b)(hb:∀g∈b,w'.heap[g]? =w.heap[g]? ∧∀o,St' g o↔St g o):Cf P w' St' t c v b:=by
 cases c with
 |undef=>exact h
 |agg cs=>obtain⟨us,e,h⟩:=h;exact⟨us,e,Xw hf hl hst hS cs hs h hb⟩
 |box cs=>
  obtain⟨g,T,bs',arr,e1,e2,h1,rfl,h2⟩:=h
  exact⟨g,T,bs',arr,e1,by rw[(hb g (by simp)).1];exact e2,Xw hf hl hst hS cs hs h1 (λx hx=>hb x (by simp[hx])),rfl,λo ho=>h2 o (((hb g (by simp)).2 o).1 ho)⟩
 |cref s off=>exact h
 |same s=>exact h
 |val s u=>exact h
 |own e n cs=>exact Ow.R0 hf hl hst hS (.own e n cs) (by rw[Of];exact hs) h hb
 |arg n cs=>exact YU (P:=P) (c:=.arg n cs) hf hl hst hS (by rw[Th,Of];exact hs) h hb
 |int k n=>exact h
 |bool k=>exact h
 |str k=>exact h
 |dat n cs=>cases hs
 |pin u n cs=>cases hs
 |fn f=>cases hs
 |tok u=>exact h
 |gh us cs=>exact A7.R0 hf hl hst hS cs hs h hb
 |tup cs=>cases hs
 |uni e n cs=>cases hs
 |adr cs o=>cases hs
end
section
variable {P:Program}{nt:Nat}{base:Bs}{bx:zN}{St St' St0:Nat->Nat->Prop}{B:Nat->zN}{hand:zN}{σ σ':PS}{a:Act}{w w' w0:World}{K:PS->Prop}
theorem vX(h:HSim P nt bx base St B hand σ a w){s:Nat}{c':V}{bs:zN}(hbs:∀g∈bs,g∈B s)(hf:FrB bs w w')(hl:∀g∈bs,∃o,¬St g o)(hs:∀q,q≠s->J6 (σ q)=true)
  (hc:Cf P w' St (tm a) c' (tm a s) (B s)) (hb:(CS c').isSome=(CS (σ s)).isSome) (hrf:DI c'=none):HSim P nt bx base St B hand (upd σ s c') a w':=by
 have hsome:∀cs,CS c'=some cs->∃ds,CS (σ s)=some ds:=λcs e=>by
  rw[e]at hb
  cases hx:CS (σ s)with
  |none=>rw[hx]at hb;cases hb
  |some ds=>exact⟨ds,rfl⟩
 have hsome':∀cs,CS (σ s)=some cs->∃ds,CS c'=some ds:=λcs e=>by
  rw[e]at hb
  cases hx:CS c' with
  |none=>rw[hx]at hb;cases hb
  |some ds=>exact⟨ds,rfl⟩
 exact
 {h with
  slot:=λq=>by
   by_cases e:q=s
   ·subst e;rw[upd_same];exact hc
   ·rw[upd_ne _ _ e]
    exact O0 hf hl h.st (λ_ _ _ h=>h) (hs q e) (h.slot q) (λg hg=>⟨hf.block g (h.range q g hg).2 (λhm=>h.apart q s e g hg (hbs g hm)),λ_=>Dx⟩)
  boxes:=λq cs e=>by
   by_cases eq:q=s
   ·subst eq;rw[upd_same]at e;obtain⟨ds,hd⟩:=hsome cs e;exact h.boxes q ds hd
   ·rw[upd_ne _ _ eq]at e;exact h.boxes q cs e
  crefs:=λq b e=>by
   by_cases eq:q=s
   ·subst eq;rw[upd_same,hrf]at e;cases e
   ·rw[upd_ne _ _ eq]at e
    obtain⟨cs,hcs⟩:=h.crefs q b e
    by_cases eb:b=s
    ·subst eb;rw[upd_same];exact hsome' cs hcs
    ·rw[upd_ne _ _ eb];exact⟨cs,hcs⟩
  range:=λq g hg=>⟨(h.range q g hg).1,Bo (h.range q g hg).2 hf.size⟩
  hrange:=λg hg=>⟨(h.hrange g hg).1,Bo (h.hrange g hg).2 hf.size⟩
  st:=λb o hs=>Bo (h.st b o hs) hf.size
  gl:=h.gl.of (λb hb o=>hb o) (λb o hb=>BS (hf.block b (h.st b o (hb o)) λhm=>(hl b hm).elim λo' ho=>ho (hb o')))}
end
end
section
def gS:Nat:=900003
def gU:Nat:=900004
def yT:Operand->zN
 |.tmp t=>[t]
 |_=>[]
section
variable {P:Program}{nt:Nat}{base:Bs}{bx:zN}{St St' St0:Nat->Nat->Prop}{B:Nat->zN}{hand:zN}{σ σ':PS}{a:Act}{w w' w0:World}{K:PS->Prop}{o:Oper}
theorem dG(h:HSim P nt bx base St B hand σ a w){s g:Nat}{c':V}{bs:zN}(hg:g∈B s)(hf:FrB [g] w w')(hl:∃o,¬St g o)(hs:∀q,q≠s->J6 (σ q)=true)(hbx:CS (σ s)=none)(hbx':CS c'=none)(hrf:DI c'=none)
  (hc:Cf P w' St (tm a) c' (tm a s) bs) (hn:bs.Nodup) (hsub:∀k∈bs,k∈B s∨k∈hand):HSim P nt bx base St (upd B s bs) [] (upd σ s c') a w':=by
 have hother:∀q,q≠s->∀k∈B q,k∉bs:=λq hq k hk hm=>by
  rcases hsub k hm with h1|h1
  ·exact h.apart q s hq k hk h1
  ·exact h.hapart q k hk h1
 have hrange:∀k∈bs,¬base k∧k < w.heap.size:=λk hk=>by
  rcases hsub k hk with h1|h1
  ·exact h.range s k h1
  ·exact h.hrange k h1
 exact
 {h with
  slot:=λq=>by
   by_cases e:q=s
   ·subst e;rw[upd_same,upd_same];exact hc
   ·rw[upd_ne _ _ e,upd_ne _ _ e]
    exact O0 hf (λk hk=>by simp only[AP]at hk;subst hk;exact hl) h.st (λ_ _ _ h=>h) (hs q e) (h.slot q) (λk hk=>⟨hf.block k (h.range q k hk).2 (λhm=>by simp only[AP]at hm;subst hm;exact h.apart q s e k hk hg),λ_=>Dx⟩)
  boxes:=λq cs e=>by
   by_cases eq:q=s
   ·subst eq;rw[upd_same,hbx']at e;cases e
   ·rw[upd_ne _ _ eq]at e;exact h.boxes q cs e
  crefs:=λq b e=>by
   by_cases eq:q=s
   ·subst eq;rw[upd_same,hrf]at e;cases e
   ·rw[upd_ne _ _ eq]at e
    obtain⟨cs,hcs⟩:=h.crefs q b e
    exact⟨cs,by rw[upd_ne _ _ (λeb=>by subst eb;rw[hbx]at hcs;cases hcs)];exact hcs⟩
  nodup:=λq=>by
   by_cases e:q=s
   ·subst e;rw[upd_same];exact hn
   ·rw[upd_ne _ _ e];exact h.nodup q
  apart:=λq r hqr k hk hk'=>by
   by_cases e:q=s
   ·subst e;rw[upd_same]at hk;rw[upd_ne _ _ (Ne.symm hqr)]at hk';exact hother r (Ne.symm hqr) k hk' hk
   ·rw[upd_ne _ _ e]at hk
    by_cases e':r=s
    ·subst e';rw[upd_same]at hk';exact hother q e k hk hk'
    ·rw[upd_ne _ _ e']at hk';exact h.apart q r hqr k hk hk'
  hnodup:=AG
  hapart:=λ_ _ _=>by simp
  range:=λq k hk=>by
   by_cases e:q=s
   ·subst e;rw[upd_same]at hk;exact⟨(hrange k hk).1,Bo (hrange k hk).2 hf.size⟩
   ·rw[upd_ne _ _ e]at hk;exact⟨(h.range q k hk).1,Bo (h.range q k hk).2 hf.size⟩
  hrange:=by simp
  st:=λb o hs=>Bo (h.st b o hs) hf.size
  gl:=h.gl.of (λb hb o=>hb o) (λb o hb=>BS (hf.block b (h.st b o (hb o)) λhm=>by simp only[AP]at hm;subst hm;exact hl.elim λo' ho=>ho (hb o')))}
theorem U1:∀{cs:List V},E1 cs=true↔∀c∈cs,deep c=true
 |[]=>by simp[E1]
 |c::cs=>by rw[E1,Aa,U1 (cs:=cs)];simp
theorem jC{e:TypeId}{n off g m:Nat}{cs new:List V}{vs:List Value}{b1 bs:zN}(h:Ow P w St (.own e n cs) (.slice (some ⟨g,0,none⟩) n m) b1)(hn:b1.Nodup)(hbn:bs.Nodup)(hap:∀k∈bs,k∉b1)
  (hd:DA cs=true) (hd':DA new=true) (hst:∀b o,St b o->b < w.heap.size) (hnew:A7 P w St new vs bs) (hl:off+new.length<=cs.length):
  g∈b1∧(∃o,¬St g o)∧∃cur:Array Value,w.heap[g]? =some (.cells cur e (0,0))∧off+vs.length<=cur.size∧∃b2,Ow P (w.setRow g (cur.toList.take off++vs++cur.toList.drop (off+vs.length)).toArray) St (.own e n (Mg cs off new)) (.slice (some ⟨g,0,none⟩) n m) b2∧b2.Nodup∧∀k∈b2,k∈b1∨k∈bs:=by
 obtain⟨hn1,xs,bs',hrow,hxs,hb1,hSt,h0⟩:=h
 have hb1':b1=g::bs':=by rw[hb1];rfl
 subst hb1'
 obtain⟨hlen,hr⟩:=hrow
 rcases hr with⟨hr,_⟩|⟨g',cap,cur,eg,hg0,hh,q1,q2,q3,q4⟩
 ·cases hr
 cases eg
 have lx:xs.length=cs.length:=hxs.length
 have lv:vs.length=new.length:=hnew.length
 have hN:n * QS P e<=cur.size:=by
  have:(cur.toList.take (n * QS P e)).length=n * QS P e:=by rw[q4];exact hlen
  rw[AJ,BN]at this
  omega
 have hle:off+vs.length<=n * QS P e:=by rw[<-hlen,lx,lv];exact hl
 have e0:=Z2 cs off new.length
 rw[e0]at hxs
 obtain⟨us1,us2,c1,c2,eu,eb,r1,r2⟩:=A7.app hxs
 obtain⟨us3,us4,c3,c4,eu',eb',r3,r4⟩:=A7.app r2
 have l1:us1.length=off:=by rw[r1.length,AJ,Cq (by omega)]
 have l3:us3.length=new.length:=by rw[r3.length,AJ,Bt,Cq (by omega)]
 have hnd2:=Bw.1 hn
 have hbs:∀k,k∈c1∨k∈c4->k∈bs':=by
  intro k hk
  rw[eb,eb']
  simp only[Al]
  rcases hk with hk|hk
  ·exact .inl hk
  ·exact .inr (.inr hk)
 have hkeep:∀(A:Array Value) (k:Nat),k≠g->(w.setRow g A).heap[k]? =w.heap[k]?:=λA k hk=>If w g k _ hk
 have hmem:=Bg (a:=g) (l:=bs')
 have hdall:=Lg.1 hd
 have hsome:∃o,¬St g o:=⟨n * QS P e,λhs=>absurd ((hSt g rfl _).1 hs) (H1 _)⟩
 have hfr:∀A:Array Value,FrB [g] w (w.setRow g A):=λA=>⟨rfl,rfl,rfl,by simp[World.setRow],λk _ hk=>If w g k _ (by simpa using hk)⟩
 have hlg:∀k∈[g],∃o,¬St k o:=λk hk=>by simp only[AP]at hk;subst hk;exact hsome
 refine⟨hmem,⟨n * QS P e,λhs=>absurd ((hSt g rfl _).1 hs) (H1 _)⟩,cur,hh,by omega,?_⟩
 have hnd3:(c1++(c3++c4)).Nodup:=by rw[<-eb',<-eb];exact hnd2.2
 have hnd4:=Aq.1 hnd3
 have hnd5:=Aq.1 hnd4.2.1
 have hgb:∀k∈bs,k≠g:=λk hk e=>hap k hk (e ▸ hmem)
 have hg1:∀k,k∈c1∨k∈c4->k≠g:=λk hk e=>hnd2.1 (e ▸ hbs k hk)
 generalize hA:(cur.toList.take off++vs++cur.toList.drop (off+vs.length))=A
 have m1:=A7.R0 (hfr A.toArray) hlg hst (λ_ _ _ h=>h) (cs.take off) (Lg.2 λc hc=>hdall c (JI hc)) r1 (λk hk=>⟨hkeep _ k (hg1 k (.inl hk)),λ_=>Dx⟩)
 have m4:=A7.R0 (hfr A.toArray) hlg hst (λ_ _ _ h=>h) (cs.drop (off+new.length)) (Lg.2 λc hc=>hdall c (JH hc)) r4 (λk hk=>⟨hkeep _ k (hg1 k (.inr hk)),λ_=>Dx⟩)
 have mv:=A7.R0 (hfr A.toArray) hlg hst (λ_ _ _ h=>h) new hd' hnew (λk hk=>⟨hkeep _ k (hgb k hk),λ_=>Dx⟩)
 have hx':A.take (n * QS P e)=us1++(vs++us4):=by
  have e1:us1=cur.toList.take off:=by
   have h2:xs.take off=us1:=by rw[eu,<-l1,List.take_left]
   rw[<-h2,<-q4,List.take_take,Cq (by omega)]
  have e4:us4=(cur.toList.drop (off+vs.length)).take (n * QS P e - (off+vs.length)):=by
   have h2:xs.drop (off+vs.length)=us4:=by
    rw[eu,eu',<-Bj,Dk (by simp[l1,l3,lv]),BY (by simp[l1,l3,lv]),Bl]
   rw[<-h2,<-q4,Ly]
  rw[<-hA,<-e1,Bj,MH,DL (by omega),MH,DL (by omega),e4]
  congr 3
  omega
 refine⟨g::(c1++(bs++c4)),⟨hn1,us1++(vs++us4),c1++(bs++c4),⟨?_,.inr ⟨g,m,A.toArray,rfl,hg0,setRow_heap w g cur _ e _ hh,q1,q2,?_,by simpa using hx'⟩⟩,?_,rfl,hSt,λhz=>?_⟩,?_,?_⟩
 ·have:xs.length=us1.length+(us3.length+us4.length):=by rw[eu,eu'];simp
  simp only[Aw];omega
 ·rw[<-q3,<-hA];simp;omega
 ·unfold Mg
  rw[Bj]
  exact m1.join (mv.join m4)
 ·have:=h0 hz
  subst this
  simp only[Cg,Nat.le_zero_eq,Nat.add_eq_zero_iff]at hl
  have:=A1 hl.2
  subst this
  simp[Mg]
 ·refine Bw.2 ⟨?_,Aq.2 ⟨hnd4.1,Aq.2 ⟨hbn,hnd5.2.1,λx hx y hy e=>hap x hx (AE _ (e ▸ hbs y (.inr hy)))⟩,?_⟩⟩
  ·intro hm
   rcases Al.1 hm with hm|hm
   ·exact hg1 g (.inl hm) rfl
   ·rcases Al.1 hm with hm|hm
    ·exact hgb g hm rfl
    ·exact hg1 g (.inr hm) rfl
  ·intro x hx y hy e
   rcases Al.1 hy with hy|hy
   ·exact hap y hy (AE _ (e ▸ hbs x (.inl hx)))
   ·exact hnd4.2.2 x hx y (Ar _ hy) e
 ·intro k hk
  rcases AB.1 hk with rfl|hk
  ·exact .inl hmem
  ·rcases Al.1 hk with hk|hk
   ·exact .inl (AE _ (hbs k (.inl hk)))
   ·rcases Al.1 hk with hk|hk
    ·exact .inr hk
    ·exact .inl (AE _ (hbs k (.inr hk)))
theorem TI{D:zN}{σ:PS}{s:Nat}(hd:D.contains s=false)(hr:DI (σ s)=none):kill D σ s=σ s:=by
 unfold kill
 rw[At (by rw[hd];simp),hr]
theorem jx{tb:Tb}(htb:IG P tb){t:TypeId}{dd:TyD}{x:Operand}{d q g off n m:Nat}{e:TypeId}{cs:List V}(hop:o.op=.load t x)(ht:tb t=some dd)(hax:KQ σ x=.tok (.pointer (some ⟨g,off,none⟩)))(hg:σ q=.gh [.slice (some ⟨g,0,none⟩) n m] [.own e n cs])(hl:off+dd.size<=cs.length)(hp:0 < dd.size)
  (ho:o.dst=some d) (hd:d < nt) (hx:d∉bx) (hk:K (upd σ d (getCells dd cs off))):RD P nt bx base St0 w0 o σ K:=by
 rintro a w Q ⟨St,B,h,hb,hst,hz⟩
 have hpt:=UN h hax
 have hG:=h.slot q
 rw[hg]at hG
 obtain⟨u,us',b1,b2,eu,eb,_,hOw,hnil⟩:=hG
 simp only[C2]at eu
 obtain⟨rfl,-⟩:=eu
 have hrd:=Ow.rd (.own e n cs) (show Ow P w St (.own e n cs) _ b1 from hOw) rfl
 simp only[Rd]at hrd
 obtain⟨hn,A,c,eA,hc,hrow,h0⟩:=hrd
 simp only[Value.slice.injEq]at eA
 obtain⟨rfl,-⟩:=eA
 have hn0:0 < n:=by
  rcases Bv n with hz|hz
  ·have:=h0 hz;subst this;simp only[Cg]at hl;omega
  ·exact hz
 obtain⟨b,off',eb',hr⟩:=hrow hn0
 simp only[Ap,Addr.mk.injEq]at eb'
 obtain⟨rfl,rfl,-⟩:=eb'
 have hr2:=hr.drop off
 rw[CR]at hr2
 obtain⟨us,h3,h4⟩:=hr2.list
 obtain⟨v,hv1,hv2⟩:=ZQ (htb _ _ ht) h3 h4 hl (.inl hp)
 have hr:(execOp a.eval o).run P w=.ok (.value v) w:=by simp[execOp,hop,hpt,hv1]
 refine Kr hr ⟨_,hk,St,upd B d [],?_,hb,hst,hz⟩
 rw[ho]
 exact h.put hd hx hv2.slot AG (by simp) hv2.Do.1 hv2.Oa
def re(σ:PS)(y:Operand)(vc:List V):Prop:=((Co σ y).isArg=true∧vc=GJ (Co σ y))∨(y=.const (.slice none 0 0)∧∃e,vc=[.own e 0 []])
theorem mp{tb:Tb}(htb:IG P tb){t:TypeId}{dd:TyD}{x y:Operand}{e:TypeId}{n off g m:Nat}{cs:List V}(hop:o.op=.store t x y)(ht:tb t=some dd)(hax:KQ σ x=.tok (.pointer (some ⟨g,off,none⟩)))
  (hg:σ gS=.gh [.slice (some ⟨g,0,none⟩) n m] [.own e n cs]) (hd:DA cs=true) {vc:List V}(hv:re σ y vc) (hd':DA vc=true) (hn:vc.length=dd.size) (hl:off+dd.size<=cs.length) (ho:o.dst=none)
  (D:zN) (hy:((yT y).contains gS || D.contains gS)=false) (hsafe:∀q,q≠gS->D.contains q=true∨J6 (CO σ y q)=true)
  (hk:K (upd (kill D (CO σ y)) gS (.gh [.slice (some ⟨g,0,none⟩) n m] [.own e n (Mg cs off vc)]))):RD P nt bx base St0 w0 o σ K:=by
 have hvv:(Co σ y).isVal=true:=by
  rcases hv with⟨hv,-⟩|⟨rfl,-⟩
  ·exact JU hv
  ·rfl
 rintro a w Q ⟨St,B,h,hb,hst,hz⟩
 have hpt:=UN h hax
 rw[BF]at hy
 obtain⟨bs,B1,hw,h2,hnb⟩:=Rj h y hvv
 rw[Bl]at h2 hnb
 have htk:∀q,(yT y).contains q=false->CO σ y q=σ q:=by
  intro q hq
  cases y with
  |tmp p=>simp only[yT,List.contains_cons,List.contains_nil,Mr,Cn,ne_eq]at hq;simp only[CO];rw[upd_ne _ _ hq]
  |_=>rfl
 obtain⟨B2,h3,_,hBs⟩:=Sw D h2
 have hsub3:∀q,∀k∈B2 q,k∈B1 q:=λq k hk=>by
  rcases hBs q with e|e
  ·rw[e]at hk;cases hk
  ·rw[e]at hk;exact hk
 have hg2:CO σ y gS=.gh [.slice (some ⟨g,0,none⟩) n m] [.own e n cs]:=by rw[htk gS hy.1];exact hg
 have hg3:kill D (CO σ y) gS=.gh [.slice (some ⟨g,0,none⟩) n m] [.own e n cs]:=by rw[TI hy.2 (by rw[hg2];rfl)];exact hg2
 have hG:=h3.slot gS
 rw[hg3]at hG
 obtain⟨u,us',b1,b2,eu,eb,_,hOw,hnil⟩:=hG
 simp only[C2]at eu
 obtain⟨rfl,rfl⟩:=eu
 have hb2:b2=[]:=hnil.2
 subst hb2
 rw[AY]at eb
 have hnd:b1.Nodup:=by have:=h3.nodup gS;rwa [eb]at this
 have hcells:A7 P w St vc (a.eval y).cells.toList bs:=by
  rcases hv with⟨hv,rfl⟩|⟨rfl,e',rfl⟩
  ·exact hw.cells hv
  ·have hb0:bs=[]:=hw.1
   subst hb0
   exact⟨.slice none 0 0,[],[],[],rfl,rfl,rfl,d7 e',rfl,rfl⟩
 have lv:(a.eval y).cells.toList.length=dd.size:=by rw[hcells.length,hn]
 obtain⟨k1,k2,cur,k3,k4,bn,k5,k6,k7⟩:=jC hOw hnd hnb (λk hk hm=>h3.hapart gS k (by rw[eb];exact hm) hk) hd hd' h3.st hcells (by rw[hn];exact hl)
 have hst0:=run_storeCells_at (P:=P) g off e (a.eval y).cells.toList 0 cur w k3 (by rw[Dt];exact k4) ((A7.rdL _ hcells).oneCell)
 simp only[Dt]at hst0
 have hagr:=htb _ _ ht
 generalize hA:(cur.toList.take off++(a.eval y).cells.toList++cur.toList.drop (off+(a.eval y).cells.toList.length)).toArray=A at hst0 k5
 have hr:(execOp a.eval o).run P w=.ok .skip (w.setRow g A):=by
  have hsz:(a.eval y).cells.size=dd.size:=by rw[<-lv,BN]
  simp[execOp,hop,hpt,Instr.storeAt,Instr.sureAddr,storeVar,hagr.sizeOf,hsz,hst0]
 have hsize:(w.setRow g A).heap.size=w.heap.size:=by simp[World.setRow]
 have hf:FrB [g] w (w.setRow g A):=⟨rfl,rfl,rfl,by rw[hsize];exact AT _,λk _ hk=>If w g k _ (by simpa using hk)⟩
 have hgb:¬base g:=(h3.range gS g (by rw[eb];exact k1)).1
 refine nV hr ⟨_,hk,St,upd B2 gS bn,?_,?_,hst,by rw[hsize];exact hz⟩
 ·rw[ho]
  refine dG h3 (s:=gS) (g:=g) (by rw[eb];exact k1) hf k2 (λq hq=>?_) (by rw[hg3];rfl) rfl rfl ⟨_,[],bn,[],rfl,by simp,rfl,k5,rfl,rfl⟩ k6 (λk hk=>by rw[eb];exact k7 k hk)
  rcases PQ D (CO σ y) q with e1|e1
  ·rw[e1];rfl
  ·rw[e1]
   cases hc:D.contains q with
   |true=>rw[<-e1,QY hc];rfl
   |false=>
    rcases hsafe q hq with h9|h9
    ·rw[hc]at h9;cases h9
    ·exact h9
 ·exact hb.trans ⟨rfl,rfl,rfl,by rw[hsize];exact AT _,λk hk=>If w g k _ (λe=>hgb (e ▸ hk))⟩
end
end
end Go.Proofs.YthghcmmlmfgkbaaGreatDoor

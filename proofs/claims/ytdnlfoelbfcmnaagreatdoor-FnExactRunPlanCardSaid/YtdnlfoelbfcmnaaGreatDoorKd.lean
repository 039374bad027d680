/- A machine on data, part 4: functions that mark. Over no program; no conditions. -/
import Derived.Test.YtdnlfoelbfcmnaaGreatDoorKp
import Derived.Test.YtdnlfoelbfcmnaaGreatDoorKq
import Derived.Test.YtdnlfoelbfcmnaaGreatDoorKb
import Derived.Test.YtdnlfoelbfcmnaaGreatDoorKc
open Go.RowKit
set_option linter.all false
namespace Go.Proofs.YtdnlfoelbfcmnaaGreatDoor
section
section
variable {P:Program}{w w':World}{St St':Nat->Nat->Prop}
def QU:∀{a b:List V},Cw (a++b)=(Cw a&&Cw b)
 |[],b=>by simp[Cw]
 |c::a,b=>by rw[BY,Cw,Cw,QU (a:=a),Bool.and_assoc]
def To{cs:List V}{p:Nat}{c:V}(a:cs[p]? =some c):cs=cs.take p++c::cs.drop (p+1)∧p < cs.length:=by
 have b:p < cs.length:=by
  rcases Bb p cs.length with h|h
  ·exact h
  ·rw[Bu h]at a;cases a
 have d:cs[p]=c:=by rw[Ae b]at a;injection a
 refine⟨?_,b⟩;rw[<-d,<-BB b,Bv]
def pk{e:TypeId}{n:Nat}{cs:List V}{v:Value}{bs:zN}{p:Nat}{c:V}(h:Ow P w St (.own e n cs) v bs)(hd:Cw cs=true)(hn:bs.Nodup)(hp:cs[p]? =some c):
  ∃g cap cur u b1,v=.slice (some ⟨g,0,none⟩) n cap∧w.heap[g]? =some (.cells cur e (0,0))∧w.cell? ⟨g,p,none⟩=some u∧w.frozen? ⟨g,p,none⟩=false∧g∈bs∧g∉b1∧b1.Nodup∧(∀x∈b1,x∈bs)∧c.DB=true∧Ow P w St c u b1∧
   (∀w' c',Ow P w' St c' u b1->c'.DB=true->(∀x∈bs,x∉b1->w'.heap[x]? =w.heap[x]?)->Ow P w' St (.own e n<|cs.set p c') v bs)∧
   (b1=[]->∀u' c',(∀w,Ow P w St c' u' [])->c'.DB=true->Ow P (w.setCell ⟨g,p,none⟩ u') St (.own e n<|cs.set p c') v bs):=by
 obtain⟨hl,xs,bs',h1,h2,h3,h4,h5⟩:=h;obtain⟨es,hk⟩:=To hp;have hpos:n≠0:=λh0=>by rw[h5 h0]at hk;simp at hk
 rcases h1.2 with h|⟨g,cap,cur,rfl,hg,hh,hcap,hm,hsz,hx⟩
 ·exact absurd h.2 hpos
 have h20:=h2;rw[es]at h20;obtain⟨us1,us2,q1,q2,eu,eb,r1,r2⟩:=h20.app;obtain⟨u,us3,b1,b2,eu2,eb2,hc,r3,r4⟩:=r2;have hl1:us1.length=p:=by rw[r1.length,At];omega
 have hxl:xs.length=n * Ub P e:=h1.1;have hpx:p < xs.length:=by rw[eu,eu2,Au,AD];omega
 have hxp:xs[p]? =some u:=by rw[eu,eu2,BT (by omega),hl1,H8,Ce]
 have hcur:cur[p]? =some u:=by have e1:=hxp;rw[<-hx,DE,Aw (by omega)]at e1;simpa using e1
 have hbs:bs=g::bs':=by rw[h3];rfl
 have hnd:g∉bs'∧bs'.Nodup:=by rw[hbs]at hn;exact BF.1 hn
 have hq:q1.Nodup∧(b1++b2).Nodup∧∀x∈q1,∀y∈b1++b2,x≠y:=by have:=hnd.2;rw[eb,eb2]at this;exact AA.1 this
 have hq2:=AA.1 hq.2.1;have hset:cs.set p=λc'=>cs.take p++c'::cs.drop (p+1):=by funext c';rw[Jq,Aw hk]
 have hdd:Cw (cs.take p)=true∧Cw (cs.drop<|p+1)=true:=by rw[es,QU,Cw]at hd;simp only[Aa]at hd;exact⟨hd.1,hd.2.2⟩
 have hcell:w.cell? ⟨g,p,none⟩=some u:=by simp only[World.cell?,hh];simpa using hcur
 have hnil:∀c',n=0->cs.set p c'=[]:=λc' h0=>absurd h0 hpos
 refine⟨g,cap,cur,u,b1,rfl,hh,hcell,by simp[World.frozen?,hh],by rw[hbs];simp,λhm=>hnd.1 (by rw[eb,eb2];simp[hm]),hq2.1,λx hx=>by rw[hbs,eb,eb2];simp[hx],hc,r3,?_,?_⟩
 ·intro w' c' ho hc' hw;have hg':w'.heap[g]? =w.heap[g]?:=hw g (by rw[hbs];simp)<|λhm=>hnd.1<|by rw[eb,eb2];simp[hm]
  have hin:∀x,x∈q1∨x∈b2->w'.heap[x]? =w.heap[x]?:=λx hx=>hw x (by rw[hbs,eb,eb2];rcases hx with hx|hx<;>simp[hx]) (λhm=>by
   rcases hx with hx|hx
   ·exact hq.2.2 x hx x (by simp[hm]) rfl
   ·exact hq2.2.2 x hm x hx rfl)
  refine⟨hl,xs,bs',⟨h1.1,.inr ⟨g,cap,cur,rfl,hg,by rw[hg'];exact hh,hcap,hm,hsz,hx⟩⟩,?_,h3,h4,hnil c'⟩;rw[hset,eu,eu2,eb,eb2];exact Bn.join (Bn.kept _ hdd.1 r1<|λx hx=>⟨hin x<|.inl hx,λ_=>CY⟩) ⟨u,us3,b1,b2,rfl,rfl,hc',ho,Bn.kept _ hdd.2 r4<|λx hx=>⟨hin x<|.inr hx,λ_=>CY⟩⟩
 ·intro hb0 u' c' ho hc';have hother:∀x,x≠g->(w.setCell ⟨g,p,none⟩ u').heap[x]? =w.heap[x]?:=λx hx=>Below.heap_setCell _ _ _ _ hx
  have hnew:(w.setCell ⟨g,p,none⟩ u').heap[g]? =some (.cells (cur.setIfInBounds p u') e (0,0)):=by simp only[World.setCell,Array.getElem?_modify,Fl,hh];rfl
  subst hb0;refine⟨hl,us1++u'::us3,bs',⟨?_,.inr ⟨g,cap,cur.setIfInBounds p u',rfl,hg,hnew,hcap,hm,by rw[Array.size_setIfInBounds];exact hsz,?_⟩⟩,?_,h3,h4,hnil c'⟩
  ·rw[<-hxl,eu,eu2];simp
  ·rw[Array.toList_setIfInBounds,List.take_set,hx,eu,eu2,Iy _ _ (by omega),hl1,H8,Nv]
  ·rw[hset,eb,eb2];have hne:∀x,x∈q1∨x∈b2->x≠g:=λx hx e=>hnd.1 (by rw[<-e,eb,eb2];rcases hx with hx|hx<;>simp[hx])
   exact Bn.join (Bn.kept _ hdd.1 r1<|λx hx=>⟨hother x<|hne x<|.inl hx,λ_=>CY⟩) ⟨u',us3,[],b2,rfl,rfl,hc',ho _,Bn.kept _ hdd.2 r4<|λx hx=>⟨hother x<|hne x<|.inr hx,λ_=>CY⟩⟩
end
mutual
def Wd:V->Nat
 |.int _ _=>1
 |.str _=>1
 |.own _ _ cs=>D6 cs
 |_=>0
def D6:List V->Nat
 |[]=>0
 |c::cs=>Wd c+D6 cs
end
section
variable (mt:Int->zU)
mutual
def mkV:V->Int->V
 |.int kd _,k=>.int kd k
 |.str _,k=>.str<|mt k
 |.own e n cs,k=>.own e n<|KK cs k
 |c,_=>c
def KK:List V->Int->List V
 |[],_=>[]
 |c::cs,k=>mkV c k::KK cs (k+Wd c)
end
def TX:List V->Int->List V
 |[],_=>[]
 |.own e n cs::r,k=>.own e n (KK mt cs k)::TX r (k+D6 cs)
 |c::r,k=>c::TX r k
end
def Ev:List V->Nat
 |[]=>0
 |.own _ _ cs::r=>D6 cs+Ev r
 |_::r=>Ev r
def W5:∀(a b:List V),D6 (a++b)=D6 a+D6 b
 |[],b=>by simp[D6]
 |c::a,b=>by rw[BY,D6,D6,W5 a b];omega
section
variable {mt:Int->zU}
def eK:∀(a b:List V) (k:Int),KK mt (a++b) k=KK mt a k++KK mt b (k+D6 a)
 |[],b,k=>by simp[KK,D6]
 |c::a,b,k=>by rw[BY,KK,KK,eK a b,BY,D6,show k+((Wd c+D6 a:Nat):Int)=k+Wd c+D6 a by omega]
def Wy:∀(a:List V) (k:Int),(KK mt a k).length=a.length
 |[],k=>rfl
 |c::a,k=>by rw[KK,AD,AD,Wy a]
mutual
def ux:∀(c:V) (k:Int),deep c=true->deep (mkV mt c k)=true
 |.tok _,_,_=>rfl
 |.int _ _,_,_=>rfl
 |.bool _,_,h=>h
 |.str _,_,_=>rfl
 |.own _ _ cs,k,h=>U5 cs k h
 |.agg _,_,h=>h
 |.dat _ _,_,h=>h
 |.arg _ _,_,h=>h
 |.pin _ _ _,_,h=>h
 |.tup _,_,h=>h
 |.box _,_,h=>h
 |.uni _ _ _,_,h=>h
 |.same _,_,h=>h
 |.val _ _,_,h=>h
 |.cref _ _,_,h=>h
 |.adr _ _,_,h=>h
 |.gh _ _,_,h=>h
 |.undef,_,h=>h
def U5:∀(cs:List V) (k:Int),Cw cs=true->Cw (KK mt cs k)=true
 |[],_,_=>rfl
 |c::cs,k,h=>by
  have a:deep c=true∧Cw cs=true:=by simpa[Cw]using h
  rw[KK,Cw,ux c k a.1,U5 cs _ a.2];rfl
end
def pfx(mt:Int->zU)(cs:List V)(k:Int)(p:Nat):List V:=KK mt (cs.take p) k++cs.drop p
def GM(cs:List V)(p:Nat):Nat:=D6<|cs.take p
def wx(cs:List V)(k:Int):pfx mt cs k 0=cs:=by simp[pfx,KK]
def zT(cs:List V)(k:Int)(p:Nat)(h:cs.length<=p):pfx mt cs k p=KK mt cs k:=by simp[pfx,C7 h,CI h]
def rW(cs:List V):GM cs 0=0:=rfl
def ul(cs:List V)(p:Nat)(h:cs.length<=p):GM cs p=D6 cs:=by simp[GM,C7 h]
def pb{cs:List V}{k:Int}{p:Nat}{c:V}(h:cs[p]? =some c):(pfx mt cs k p)[p]? =some c:=by
 obtain⟨_,b⟩:=To h;have a:(KK mt (cs.take p) k).length=p:=by rw[Wy,At];omega
 rw[pfx,BT (by omega),a,H8,Do,CG,h]
def kW{cs:List V}{p:Nat}{c:V}(h:cs[p]? =some c):cs.take (p+1)=cs.take p++[c]:=by
 obtain⟨_,a⟩:=To h;rw[A6 a];rw[Ae a]at h;injection h with h
 rw[h]
def oc{cs:List V}{p:Nat}{c:V}(h:cs[p]? =some c):GM cs (p+1)=GM cs p+Wd c:=by rw[GM,kW h,W5,D6,D6];rfl
def yg(cs:List V)(p:Nat):GM cs p<=D6 cs:=by have:=W5 (cs.take p)<|cs.drop p;rw[Bv]at this;unfold GM;omega
def ww{cs:List V}{k:Int}{p:Nat}{c:V}(h:cs[p]? =some c):(pfx mt cs k p).set p (mkV mt c<|k+GM cs p)=pfx mt cs k (p+1):=by
 obtain⟨_,a⟩:=To h;have b:(KK mt (cs.take p) k).length=p:=by rw[Wy,At];omega
 have d:cs.drop p=c::cs.drop (p+1):=by
  rw[Ae a]at h;injection h with h
  rw[<-h,<-BB a]
 rw[pfx,pfx,kW h,eK,Iy _ _ (by omega),b,H8,d,Nv];simp[KK,GM]
def W8{cs k p}(h:Cw cs=true):Cw (pfx mt cs k p)=true:=by rw[<-Bv p cs,QU]at h;simp only[Aa]at h;rw[pfx,QU,U5 _ _ h.1,h.2];rfl
end
section
variable {P:Program}{St:Nat->Nat->Prop}{mt:Int->zU}
def Xw(w:World)(bs:zN):Prop:=Glb w<|λb _=>b < w.heap.size∧b∉bs
def Xw.fr{w0 w bs}(h:Xw w0 bs)(f:FrB bs w0 w):Xw w bs:=λp a=>⟨λo=>⟨Bz ((h p a).1 o).1 f.size,((h p a).1 o).2⟩,λi x b=>by rw[B6 (f.block p.1 ((h p a).1 0).1 ((h p a).1 0).2)];exact(h p a).2 i x b⟩
def Xw.sub{w bs b1}(h:Xw w bs)(hs:∀g∈b1,g∈bs):Xw w b1:=λp hp=>⟨λo=>⟨((h p hp).1 o).1,λhm=>((h p hp).1 o).2<|hs _ hm⟩,(h p hp).2⟩
def Inv(P:Program)(St:Nat->Nat->Prop)(mt:Int->zU)(e:TypeId)(n:Nat)(cs:List V)(k:Int)(v:Value)(bs:zN)(a:World)(p:Nat)(w:World):Prop:=
 Ow P w St (.own e n<|pfx mt cs k p) v bs∧FrB bs a w∧Xw a bs
def Ld(P:Program)(f:FuncId)(c:V)(k:Int)(c':V)(a:Int):Prop:=
 MT P f∧∀w St v bs,Ow P w St c v bs->bs.Nodup->(∀g∈bs,g < w.heap.size)->Xw w bs->Calls P f #[v,.int .i64 k] w (λe w'=>e=.returned (.int .i64 a)∧Ow P w' St c' v bs∧FrB bs w w')
variable {e:TypeId}{n:Nat}{cs:List V}{k:Int}{v:Value}{bs:zN}{w0 w:World}{p:Nat}
def Inv.start(h:Ow P w0 St (.own e n cs) v bs)(a:Xw w0 bs):Inv P St mt e n cs k v bs w0 0 w0:=⟨by rw[wx];exact h,FrB.refl _ _,a⟩
def Inv.glb(h:Inv P St mt e n cs k v bs w0 p w):Xw w bs:=h.2.2.fr h.2.1
def Inv.done(h:Inv P St mt e n cs k v bs w0 p w)(a:cs.length<=p):Ow P w St (.own e n<|KK mt cs k) v bs∧FrB bs w0 w:=by have:=h.1;rw[zT _ _ _ a]at this;exact⟨this,h.2.1⟩
def Inv.int{kd x}(h:Inv P St mt e n cs k v bs w0 p w)(f:Cw cs=true)(i:bs.Nodup)(d:cs[p]? =some (.int kd x)):
  ∃g a,v=.slice (some ⟨g,0,none⟩) n a∧(∃u,w.cell? ⟨g,p,none⟩=some u)∧w.frozen? ⟨g,p,none⟩=false∧Inv P St mt e n cs k v bs w0 (p+1) (w.setCell ⟨g,p,none⟩<|.int kd<|k+GM cs p):=by
 have⟨g,a,j,u,b1,l,s,m,o,q,t,y,z,A,b,r,c⟩:=pk h.1 (W8 f) i<|pb d;refine⟨g,a,l,⟨u,m⟩,o,?_,h.2.1.trans<|FrB.set q _,h.2.2⟩;rw[<-ww d];exact c b.1 _ _ (λw=>⟨rfl,rfl⟩) rfl
def Inv.str{x}(h:Inv P St mt e n cs k v bs w0 p w)(f:Cw cs=true)(i:bs.Nodup)(d:cs[p]? =some (.str x))(j:(mt<|k+GM cs p).length<=maxLen):
  ∃g a,v=.slice (some ⟨g,0,none⟩) n a∧(∃u,w.cell? ⟨g,p,none⟩=some u)∧w.frozen? ⟨g,p,none⟩=false∧Inv P St mt e n cs k v bs w0 (p+1) (w.setCell ⟨g,p,none⟩<|.string ⟨(mt<|k+GM cs p).toArray⟩):=by
 have⟨g,a,l,u,b1,m,t,o,q,r,y,z,A,B,b,s,c⟩:=pk h.1 (W8 f) i<|pb d;refine⟨g,a,m,⟨u,o⟩,q,?_,h.2.1.trans<|FrB.set r _,h.2.2⟩;rw[<-ww d];exact c b.1 _ _ (λw=>⟨rfl,rfl,j⟩) rfl
def Inv.grow{w'}(h:Inv P St mt e n cs k v bs w0 p w)(c:Cw cs=true)(a:∀g∈bs,g < w0.heap.size)(b:Below w.heap.size w w'):Inv P St mt e n cs k v bs w0 p w':=
 ⟨Ow.kept (.own e n<|pfx mt cs k p) (by rw[deep];exact W8 c) h.1<|λg d=>⟨b.block g<|Bz (a g d) h.2.1.size,λ_=>CY⟩,h.2.1.trans<|FrB.below b,h.2.2⟩
def Inv.own{e' m ds f k'}(h:Inv P St mt e n cs k v bs w0 p w)(hd:Cw cs=true)(hn:bs.Nodup)(hbs:∀g∈bs,g < w0.heap.size)(hp:cs[p]? =some (.own e' m ds))
  (hm:Ld P f (.own e' m ds) (k+GM cs p) (.own e' m<|KK mt ds<|k+GM cs p) k'):
  ∃g cap u,v=.slice (some ⟨g,0,none⟩) n cap∧w.cell? ⟨g,p,none⟩=some u∧u.oneCell'=true∧Calls P f #[u,.int .i64 (k+GM cs p)] w (λe' w'=>e'=.returned (.int .i64 k')∧Inv P St mt e n cs k v bs w0 (p+1) w'):=by
 have⟨g,cap,cur,u,b1,e1,e2,e3,e4,e5,e6,e7,e8,e9,e10,e11,e12⟩:=pk h.1 (W8 hd) hn<|pb hp;have hlt:∀x∈bs,x < w.heap.size:=λx hx=>Bz (hbs x hx) h.2.1.size
 refine⟨g,cap,u,e1,e3,(Ow.rd _ e10 rfl).oneCell,(hm.2 w St u b1 e10 e7 (λx hx=>hlt x<|e8 x hx)<|h.glb.sub e8).mono ?_⟩;rintro e' w' ⟨h1,h2,h3⟩;refine⟨h1,?_,h.2.1.trans<|h3.more e8,h.2.2⟩;rw[<-ww hp];exact e11 w' _ h2 rfl<|λx hx hnx=>h3.block x (hlt x hx) hnx
end
end
section
section
variable {P:Program}{nt:Nat}{base:Bs}{bx:zN}{St St' St0:Nat->Nat->Prop}{B:Nat->zN}{hand:zN}{σ σ':PS}{a:Act}{w w' w0:World}{K:PS->Prop}
def FrB.toBelow{bs}(hf:FrB bs w w')(hb:∀g∈bs,¬base g)(hz:∀b,base b->b < w.heap.size):BelowK base.K w w':=
 ⟨hf.os,hf.tape,hf.output,hf.size,λk hk=>hf.block k (hz k hk)<|λhm=>hb k hm hk⟩
def Src(P:Program)(nt:Nat)(bx:zN)(σ:PS)(b:Op)(s:Nat)(c c' d:V):Prop:=
 ∀base St B a w o,HSim P nt bx base St B [] σ a w->o.op=b->∃v bs,(execOp a.eval o).run P w=.ok (.value v) w∧Ow P w St c v bs∧bs.Nodup∧(∀g∈bs,g∈B s)∧∀w',Ow P w' St c' v bs->FrB bs w w'->Cr P w' St (tm a) d (tm a s) (B s)
def cR{tb}(j:Jr P tb){s:Nat}{T:TypeId}{n:Nat}{z:List V}{x:List (Nat×Nat)}{cs cs':List V}(y:tb T=some (.st n z x))(A:σ s=.box cs)(C:cs.length=n):Src P nt bx σ (.load T<|.tmp s) s (.agg cs) (.agg cs') (.box cs'):=by
 intro base St B a w o h D;have p:=h.slot s;rw[A]at p;have⟨g,F,e,b,q,r,t,i,H⟩:=p;have f:=h.nodup s;rw[i]at f;have c:=BF.1 f;refine⟨.agg b.toList.toArray,e,?_,⟨b.toList,rfl,t⟩,c.2,λx I=>by rw[i];simp[I],?_⟩
 ·have d:=j _ _ y;have J:b.toList.length=n:=by rw[t.length,C]
  have u:=Fk (P:=P) (w:=w) ⟨g,0,none⟩ b.toList (λj v L=>by rw[add_plain];simp only[World.cell?,r,CH];simpa using L);rw[J]at u;have k:a.eval (.tmp s)=.pointer (some ⟨g,0,none⟩):=q;simp[execOp,D,k,Instr.loadAt,Instr.sureAddr,loadVar,d.isAgg,d.sizeOf,TyD.Xy,TyD.size,u]
 ·rintro w' ⟨us,M,N⟩ O;have l:us=b.toList:=by have:=(Value.agg.inj M);have Q:=congrArg Array.toList this;simpa using Q.symm
  subst l;have m:g < w.heap.size:=(h.range s g<|by rw[i];simp).2;exact⟨g,F,e,b,q,by rw[O.block g m c.1];exact r,N,i,H⟩
def TV{ops o d p t}(h:CR ops o=⟨d,p,t,none⟩):o.dst=d∧o.op=p∧o.guard=none:=by have b:=congrArg LO.dst h;have c:=congrArg LO.op h;have e:=congrArg LO.g h;refine⟨b,c,?_⟩;simpa[CR]using e
def T9{ops R}{o:Oper}{os}(b:o.guard=none)(h:o.wp P a w (wpList P ops R os) R):wpList P ops R (o::os) a w:=by
 have c:Region.wanted o (yielded ops a.tmps)=true:=by simp[Region.wanted,b]
 unfold wpList;rw[Aw c];exact .inl h
def cJ{opA s tA tk tR tK tyA tyk tyR tyK ts f cns y k k' c c' cS Q}
  (x:Src P nt bx σ opA s c c' cS) (I:sH opA=false) (hk:σ tK=.int .i64 k) (hm:Ld P f c k c' k') (hd:deep c=true) (l:∀q,q≠s->KT (σ q)=true) (hb:(C6 cS).isSome=(C6<|σ s).isSome) (J:D3 cS=none)
  (z:tK≠tA∧tA≠tk) (L:cns.contains tK=false) (M:cns.contains tR=false)
  (h:LS P nt bx y (upd (upd (upd (upd (upd σ s cS) tA .undef) tk .undef) tR .undef) tK<|.int .i64 k') Q):
  LS P nt bx (.seq (.rgn cns [⟨some tA,opA,tyA,none⟩,⟨some tk,.move<|.tmp tK,tyk,none⟩,⟨some tR,.call {callee:=.value (.func f),args:= #[.tmp tA,.tmp tk],argTypes:=ts},tyR,none⟩,⟨some tK,.assign<|.tmp tR,tyK,none⟩]) y) σ Q:=by
 refine eF ?_;intro c0 i A F;cases c0<;>first|cases i|skip
 rename_i id ops d;simp only[F3,Uc]at i;split at i
 ·cases i
 rename_i N;simp only[LC.rgn.injEq,Nz]at i;have O:d=false:=by simpa using N
 subst O;have⟨o1,l1,e1,q1,i⟩:=D9.1 i;obtain⟨o2,l2,rfl,q2,i⟩:=D9.1 i;obtain⟨o3,l3,rfl,q3,i⟩:=D9.1 i;obtain⟨o4,l4,rfl,q4,i⟩:=D9.1 i;have:=List.map_eq_nil_iff.1 i;subst this;have⟨a1,b1,g1⟩:=TV q1;have⟨a2,b2,g2⟩:=TV q2;have⟨a3,b3,g3⟩:=TV q3;have⟨a4,b4,g4⟩:=TV q4;simp only[okC,e1,By,Fu,DG,Aa]at A;have⟨k1,k2,k3,k4⟩:=A;have R:=S8 k1 a1 (by rw[b1];exact I);have S:=S8 k2 a2 (by rw[b2];rfl);have T:okA bx cns ⟨some tR,.call {callee:=.value (.func f),args:= #[.tmp tA,.tmp tk],argTypes:=ts},tyR,none⟩=true:=by simp only[okL,By,Aa]at F;exact F.2.2.1
 have C:=mP (cns:=cns) (ops:=ops) k3 (by rw[q3];exact T) b3 rfl a3;have U:tR < nt∧tR∉bx:=⟨C.1,C.2.2 M⟩;have W:okA bx cns ⟨some tK,.assign<|.tmp tR,tyK,none⟩=true:=by simp only[okL,By,Aa]at F;exact F.2.2.2.1
 have d4:=wd (cns:=cns) (ops:=ops) k4 (by rw[q4];exact W) (.inl ⟨_,b4⟩) a4;intro base St0 w0 a w hr;refine wp_region_list ?_;rw[e1];have⟨St,B,j,X,Y,hz⟩:=hr;have⟨v,bs,r1,Z,nd,m,D⟩:=x base St B a w o1 j b1;have hkv:tm a tK=.int .i64 k:=by have:=j.slot tK;rw[hk]at this;exact G2 this
 have hK:tK∉bx:=d4.2.2 L;have z0:a.tmps.size=nt:=j.size;have t1:=bd a tA v (by rw[z0];exact R.1);have z1:(a.put (some tA) v).tmps.size=nt:=by rw[size_put];exact z0
 have t2:=bd (a.put (some tA) v) tk (.int .i64 k) (by rw[z1];exact S.1);have z2:((a.put (some tA) v).put (some tk)<|.int .i64 k).tmps.size=nt:=by rw[size_put];exact z1
 have t3:=bd ((a.put (some tA) v).put (some tk)<|.int .i64 k) tR (.int .i64 k') (by rw[z2];exact U.1);have H:∀(a:Act) (t:Nat),a.eval (.tmp t)=tm a t:=λ_ _=>rfl
 refine T9 g1<|JK r1 ?_;rw[a1];have r2:(execOp (a.put (some tA) v).eval o2).run P w=.ok (.value<|.int .i64 k) w:=by simp[execOp,b2,H,t1,upd_ne _ _ z.1,hkv]
 refine T9 g2<|JK r2 ?_;rw[a2];have eA:((a.put (some tA) v).put (some tk)<|.int .i64 k).eval (.tmp tA)=v:=by rw[H,t2,upd_ne _ _ z.2,t1,upd_same]
 have ek:((a.put (some tA) v).put (some tk)<|.int .i64 k).eval (.tmp tk)=.int .i64 k:=by rw[H,t2,upd_same]
 have⟨⟨fn,hf,n,r⟩,u⟩:=hm;have r3:(execOp ((a.put (some tA) v).put (some tk)<|.int .i64 k).eval o3).run P w=.ok (.enter f #[v,.int .i64 k]) w:=by have e2:((a.put (some tA) v).put (some tk)<|.int .i64 k).eval (.func f)=.func (.func f) #[] #[]:=rfl;simp only[execOp,b3,resolve,e2,Deferred.ofValue,A8,BA,AU,invoke,callFunc,Lv,Kr,H6,hf,n,r];simp[eA,ek]
 refine T9 g3 ?_;unfold Oper.wp;rw[r3,D8];have hlt:∀g∈bs,g < w.heap.size:=λg hg=>(j.range s g<|m g hg).2
 have hG:Xw w bs:=λp hp=>⟨λo=>⟨j.st _ _<|(j.gl p hp).1 o,λhm=>(Ow.Sv c hd Z p.1 hm).elim λo' ho=>ho<|(j.gl p hp).1 o'⟩,(j.gl p hp).2⟩
 refine(u w St v bs Z nd hlt hG).mono ?_;rintro e w' ⟨rfl,ow',fr⟩;show wpList P ops _ [o4] (((a.put (some tA) v).put (some tk)<|.int .i64 k).put o3.dst<|.int .i64 k') w';rw[a3];have r4:(execOp (((a.put (some tA) v).put (some tk)<|.int .i64 k).put (some tR)<|.int .i64 k').eval o4).run P w'=.ok (.value<|.int .i64 k') w':=by simp[execOp,b4,H,t3,upd_same]
 refine T9 g4<|JK r4 ?_;rw[a4];have h2:=sv j m fr (Ow.Sv c hd Z) l (D w' ow' fr) hb J;have h3:=h2.put (d:=tA) R.1 R.2 (c:=.undef) (v:=v) (bs:=[]) rfl AP (by simp) rfl (by intro b e;cases e);have h4:=h3.put (d:=tk) S.1 S.2 (c:=.undef) (v:=.int .i64 k) (bs:=[]) rfl AP (by simp) rfl (by intro b e;cases e);have h5:=h4.put (d:=tR) U.1 U.2 (c:=.undef) (v:=.int .i64 k') (bs:=[]) rfl AP (by simp) rfl (by intro b e;cases e);have h6:=h5.put (d:=tK) d4.1 hK (c:=.int .i64 k') (v:=.int .i64 k') (bs:=[]) ⟨rfl,rfl⟩ AP (by simp) rfl (by intro b e;cases e);exact⟨_,h,St,_,h6,X.trans<|fr.toBelow (λg hg=>(j.range s g<|m g hg).1) hz,Y,SZ hz fr.size⟩
end
end
section
abbrev TS:=Nat->Option Value
def Has(T:TS)(nt:Nat)(a:Act):Prop:=a.tmps.size=nt∧a.defers=[]∧∀s u,T s=some u->tm a s=u
section
variable {P:Program}{nt:Nat}{bx:zN}{T:TS}{a:Act}{w w':World}{K:TS->World->Prop}{os:List LO}{tb:Tb}
def jX{d u}(h:Has T nt a)(c:d < nt):Has (upd T d<|some u) nt (a.put (some d) u):=by
 refine⟨by rw[size_put];exact h.1,by rw[U6];exact h.2.1,λs x b=>?_⟩;rw[bd a d u (by rw[h.1];exact c)];by_cases e:s=d
 ·subst e;rw[upd_same]at b⊢;injection b
 ·rw[upd_ne _ _ e]at b⊢;exact h.2.2 s x b
def MP{s u}(h:Has T nt a)(b:T s=some u):a.eval (.tmp s)=u:=h.2.2 s u b
def MO(P:Program)(nt:Nat)(bx:zN)(os:List LO)(T:TS)(w:World)(K:TS->World->Prop):Prop:=
 ∀(ops:Array Oper) (l:List Oper),l.map (CR ops)=os->l.all (Vv nt bx)=true->∀(R:Exit->Act->World->Prop),(∀b a' w',K b w'->Has b nt a'->R .normal a' w')->∀a,Has T nt a->wpList P ops R l a w
def ES(h:K T w):MO P nt bx [] T w K:=by intro ops l b c R d a e;rw[List.map_eq_nil_iff.1 b];exact d T a w h e
theorem kn{o:Oper}{d:Nat}(h:Vv nt bx o=true)(hd:o.dst=some d):d < nt:=by
 replace h:=eS h
 unfold eR at h
 rw[hd]at h
 simp only[Aa,Bf]at h
 exact h.1
def Uo{d op ty u}(f:∀(a:Act) (o:Oper),Has T nt a->o.op=op->(execOp a.eval o).run P w=.ok (.value u) w)(h:MO P nt bx os (upd T d<|some u) w K):MO P nt bx (⟨some d,op,ty,none⟩::os) T w K:=by intro ops l c b R g a e;obtain⟨o,i,rfl,q,c⟩:=D9.1 c;have⟨a1,b1,g1⟩:=TV q;simp only[By,Aa]at b;refine T9 g1<|JK (f a o e b1) ?_;rw[a1];exact h ops i c b.2 R g _<|jX e<|kn b.1 a1
def Afi{d op ty u}(f:∀(a:Act) (o:Oper),Has T nt a->o.op=op->(execOp a.eval o).run P w=.ok (.value u) w')(h:MO P nt bx os (upd T d<|some u) w' K):MO P nt bx (⟨some d,op,ty,none⟩::os) T w K:=by intro ops l c b R g a e;obtain⟨o,i,rfl,q,c⟩:=D9.1 c;have⟨a1,b1,g1⟩:=TV q;simp only[By,Aa]at b;refine T9 g1<|JK (f a o e b1) ?_;rw[a1];exact h ops i c b.2 R g _<|jX e<|kn b.1 a1
def De{d s ty u}(b:T s=some u)(h:MO P nt bx os (upd T d<|some u) w K):MO P nt bx (⟨some d,.move<|.tmp s,ty,none⟩::os) T w K:=
 Uo (λa o c e=>by simp[execOp,e,MP c b]) h
def IN{d s ty u}(b:T s=some u)(h:MO P nt bx os (upd T d<|some u) w K):MO P nt bx (⟨some d,.assign<|.tmp s,ty,none⟩::os) T w K:=
 Uo (λa o c e=>by simp[execOp,e,MP c b]) h
def lX(a:Act)(u:Value):a.eval (.const u)=u:=rfl
def TY{d ty u}(h:MO P nt bx os (upd T d<|some u) w K):MO P nt bx (⟨some d,.assign<|.const u,ty,none⟩::os) T w K:=
 Uo (λa o c b=>by simp[execOp,b,lX]) h
def Afh(b:Jr P tb){d s:Nat}{t ty e:TypeId}{es f n c:Nat}{g:List V}{A:Option Addr}(i:tb t=some (.sl e es f g))(k:T s=some (.slice A n c))(h:MO P nt bx os (upd T d<|some<|.int .i64 n) w K):
  MO P nt bx (⟨some d,.call {callee:=.builtin .len,args:= #[.tmp s],argTypes:= #[t]},ty,none⟩::os) T w K:=by
 have⟨u,j,zv,_,_,_,l,v,_⟩:=b _ _ i;refine Uo (λa o m p=>?_) h;have q:=MP m k;have r:(Builtin.len_ #[t] o.type #[.slice A n c]).run P w=.ok (.int .i64 n) w:=by simp[Builtin.len_,Bw l,goInt]
 simp only[execOp,p,resolve,invoke,builtin,A8,BA,AU,Hz,AM,CZ,q,r]
def Ajg{d x y t t2 ty m n}(e:T x=some (.int .i64 m))(f:T y=some (.int .i64 n))(h:MO P nt bx os (upd T d<|some<|.bool<|decide (m < n)) w K):MO P nt bx (⟨some d,.binOp .lss t (.tmp x) (.tmp y) t2,ty,none⟩::os) T w K:=by
 refine Uo (λa o b g=>?_) h;have i:=MP b e;have j:=MP b f;have c:(do eqGuard .lss t (.tmp x) (.tmp y) (.int .i64 m) (.int .i64 n);binOp .lss t (.int .i64 m) (.int .i64 n):Sem Value).run P w=.ok (.bool<|decide (m < n)) w:=by simp only[eqGuard,binOp,Op.intCmp,ne_eq,I1,Dv,A8];rfl
 simp only[A8]at c;simp only[execOp,g,i,j,A8,c,AU,BA]
def eL{d x t t2 ty m}(c:T x=some (.int .i64 m))(k:0<=m)(l:m < 9223372036854775807)(h:MO P nt bx os (upd T d<|some<|.int .i64<|m+1) w K):MO P nt bx (⟨some d,.binOp .add t (.tmp x) (.const<|.int .i64 1) t2,ty,none⟩::os) T w K:=by
 refine Uo (λa o e f=>?_) h;have g:=MP e c;have i:=lX a<|.int .i64 1
 have j:wZ (m+1)=m+1:=by
  (try unfold wZ)<;>unfold IntKind.wrap
  simp[IntKind.signed,IntKind.bits]<;>omega
 have b:(do eqGuard .add t (.tmp x) (.const<|.int .i64 1) (.int .i64 m) (.int .i64 1);binOp .add t (.int .i64 m) (.int .i64 1):Sem Value).run P w=.ok (.int .i64<|wZ<|m+1) w:=by simp only[eqGuard,binOp,Op.intArith,ne_eq,I1,Dv,A8];rfl
 rw[j]at b;simp only[A8]at b;simp only[execOp,f,g,i,A8,b,AU,BA]
def eM(b:Jr P tb){d x y:Nat}{t ty e:TypeId}{es m n c g j:Nat}{p:List V}(q:tb t=some (.sl e es m p))(r:T x=some (.slice (some ⟨g,0,none⟩) n c))(s:T y=some (.int .i64 j))(D:j < n)
  (h:MO P nt bx os (upd T d<|some<|.pointer<|some ⟨g,j * es,none⟩) w K):MO P nt bx (⟨some d,.indexAddr t (.tmp x)<|.tmp y,ty,none⟩::os) T w K:=by
 have⟨i,F,zv,_,_,_,u,f,_,k,_⟩:=b _ _ q;refine Uo (λa o l v=>?_) h;have z:=MP l r;have A:=MP l s;have B:(0:Int)<=j∧(j:Int) < n:=by omega
 have C:(Instr.indexAt t (.slice (some ⟨g,0,none⟩) n c)<|.int .i64 j).run P w=.ok (.pointer<|some ⟨g,j * es,none⟩) w:=by simp[Instr.indexAt,asIntOf,Bw u,B,Go.sizeOf,typeInfo,f,k,add_plain];omega
 simp only[execOp,v,z,A,A8,C,AU,BA]
def RM(k:Jr P tb){d x f:Nat}{t ty:TypeId}{n off v g p:Nat}{z:List V}{y:List (Nat×Nat)}(A:tb t=some (.st n z y))(l:y[f]? =some (off,v))(B:T x=some (.pointer<|some ⟨g,p,none⟩))
  (h:MO P nt bx os (upd T d<|some<|.pointer<|some ⟨g,p+off,none⟩) w K):MO P nt bx (⟨some d,.fieldAddr t (.tmp x) f,ty,none⟩::os) T w K:=by
 have⟨i,C,D,_,_,_,_,F,m,c,_⟩:=k _ _ A
 have H:∃b,D[f]? =some b∧b.offset=off∧Ub P b.type=v:=by
  rw[<-m,BP]at l;have⟨b,I,q⟩:=B5.1 l;injection q with q h3
  exact⟨b,by simpa using I,q,h3⟩
 obtain⟨b,r,rfl,s⟩:=H;have e:0 < Ub P b.type:=by rw[s];exact c _<|B3 l
 obtain⟨j,J,u⟩:∃j,P.info? b.type=some j∧j.size≠0:=by
  unfold Ub at e;cases hi:P.info? b.type with
  |none=>rw[hi]at e;simp at e
  |some j=>rw[hi]at e;exact⟨j,rfl,by simp at e;omega⟩
 refine Uo (λa o L M=>?_) h;have N:=MP L B;have O:(Instr.fieldAt t (.pointer<|some ⟨g,p,none⟩) f).run P w=.ok (.pointer<|some ⟨g,p+b.offset,none⟩) w:=by simp[Instr.fieldAt,Bw F,r,Instr.sureAddr,fieldPlace,Go.sizeOf,typeInfo,J,u,add_plain]
 simp only[execOp,M,N,A8,O,AU,BA]
def P8(c:Jr P tb){d x:Nat}{t ty:TypeId}{dd:TyD}{g p:Nat}{u:Value}(f:tb t=some dd)(e:dd.Xy=false)(i:T x=some (.pointer<|some ⟨g,p,none⟩))(j:w.cell? ⟨g,p,none⟩=some u)
  (h:MO P nt bx os (upd T d<|some u) w K):MO P nt bx (⟨some d,.load t<|.tmp x,ty,none⟩::os) T w K:=by
 have b:=c _ _ f;refine Uo (λa o k l=>?_) h;have m:=MP k i;simp[execOp,l,m,Instr.loadAt,Instr.sureAddr,loadVar,b.isAgg,e,j]
def mJ(c:Jr P tb){d x:Nat}{t ty:TypeId}{n:Nat}{z:List V}{f:List (Nat×Nat)}{g p:Nat}{us:List Value}(i:tb t=some (.st n z f))(k:us.length=n)(l:T x=some (.pointer<|some ⟨g,p,none⟩))(m:∀(j:Nat) (u:Value),us[j]? =some u->w.cell? ⟨g,p+j,none⟩=some u)
  (h:MO P nt bx os (upd T d<|some<|.agg us.toArray) w K):MO P nt bx (⟨some d,.load t<|.tmp x,ty,none⟩::os) T w K:=by
 have b:=c _ _ i;refine Uo (λa o q r=>?_) h;have s:=MP q l;have e:=Fk (P:=P) (w:=w) ⟨g,p,none⟩ us (λj v y=>by rw[add_plain];exact m j v y);rw[k]at e;simp[execOp,r,s,Instr.loadAt,Instr.sureAddr,loadVar,b.isAgg,b.sizeOf,TyD.Xy,TyD.size,e]
def Zg(e:Jr P tb){x y:Nat}{t ty:TypeId}{z:V}{g p:Nat}{u v:Value}(j:tb t=some (.sc z))(k:T x=some (.pointer<|some ⟨g,p,none⟩))(m:T y=some v)(n:v.cells= #[v])(r:w.cell? ⟨g,p,none⟩=some u)(s:w.frozen? ⟨g,p,none⟩=false)(A:v.oneCell'=true)
  (h:MO P nt bx os T (w.setCell ⟨g,p,none⟩ v) K):MO P nt bx (⟨none,.store t (.tmp x)<|.tmp y,ty,none⟩::os) T w K:=by
 have b:=e _ _ j;intro ops l f c R B a d;obtain⟨o,C,rfl,q,f⟩:=D9.1 f;have⟨a1,b1,g1⟩:=TV q;simp only[By,Aa]at c;have D:=MP d k;have F:=MP d m
 have H:(execOp a.eval o).run P w=.ok .skip (w.setCell ⟨g,p,none⟩ v):=by
  have i:(store ⟨g,p,none⟩ v).run P w=.ok () (w.setCell ⟨g,p,none⟩ v):=by rw[run_store P w _ _ _ A];simp[r,s]
  simp[execOp,b1,D,F,Instr.storeAt,Instr.sureAddr,storeVar,b.sizeOf,TyD.size,n,storeCells,add_plain,i]
 refine T9 g1<|pz H ?_;rw[a1];exact h ops C f c.2 R B _ ⟨by rw[size_put];exact d.1,by rw[U6];exact d.2.1,d.2.2⟩
def L8{d ty f args ts vs}(n:MT P f)(b:∀a,Has T nt a->args.map a.eval=vs)(p:Calls P f vs w (λe w'=>∃u,e=.returned u∧MO P nt bx os (upd T d<|some u) w' K)):
  MO P nt bx (⟨some d,.call {callee:=.value (.func f),args:=args,argTypes:=ts},ty,none⟩::os) T w K:=by
 intro ops l j c R r a k;obtain⟨o,m,rfl,q,j⟩:=D9.1 j;have⟨a1,b1,g1⟩:=TV q;simp only[By,Aa]at c;have⟨z,s,g,i⟩:=n;have t:(execOp a.eval o).run P w=.ok (.enter f vs) w:=by have v:=b a k;have x:a.eval (.func f)=.func (.func f) #[] #[]:=rfl;simp only[execOp,b1,resolve,x,Deferred.ofValue,A8,BA,AU,invoke,callFunc,Lv,Kr,H6,s,g,i];simp[v]
 refine T9 g1 ?_;unfold Oper.wp;rw[t,D8];refine p.mono ?_;rintro e y ⟨u,rfl,h⟩;show wpList P ops R m (a.put o.dst u) y;rw[a1];exact h ops m j c.2 R r _<|jX k<|kn c.1 a1
def aO{d x t ty us}(b:T x=some (.agg us))(h:MO P nt bx os (upd T d<|some<|.pointer<|some ⟨w.heap.size,0,none⟩) (w.alloc<|.cells us t) K):MO P nt bx (⟨some d,.box t<|.tmp x,ty,none⟩::os) T w K:=by refine Afi (λa o c e=>?_) h;have f:=MP c b;simp[execOp,e,f,Instr.box,newVar,newRow,Value.cells]
def MS(P:Program)(nt:Nat)(bx:zN)(l:LC)(T:TS)(w:World)(Q:Exit->TS->World->Prop):Prop:=∀c,F3 c=Uc l->okC nt bx c=true->∀a,Has T nt a->c.wp P (λe a' w'=>∃b,Q e b w'∧Has b nt a') a w
def xw(N:TS->World->Prop)(Q:Exit->TS->World->Prop):Exit->TS->World->Prop
 |.normal,T,w=>N T w
 |e,T,w=>Q e T w
def n8(b:Nat)(Q:Exit->TS->World->Prop):Exit->TS->World->Prop
 |.exit i,T,w=>if i=b then Q .normal T w else Q (.exit i) T w
 |e,T,w=>Q e T w
variable {Q:Exit->TS->World->Prop}{x y:LC}
def zk{Q'}(h:MS P nt bx x T w Q)(f:∀e T w,Q e T w->Q' e T w):MS P nt bx x T w Q':=
 λc g b a i=>FF (h c g b a i)<|λe a w ⟨d,j,k⟩=>⟨d,f e d w j,k⟩
def ET{cns}(h:MO P nt bx os T w (Q .normal)):MS P nt bx (.rgn cns os) T w Q:=by
 intro c hc hok a ha;cases c<;>first|cases hc|skip
 rename_i id ops' d;simp only[F3,Uc]at hc;split at hc
 ·cases hc
 ·rename_i hd;simp only[LC.rgn.injEq,Nz]at hc;have:d=false:=by simpa using hd
  subst this;exact wp_region_list<|h ops' ops'.toList hc hok _ (λT' a' w' h1 h2=>⟨T',h1,h2⟩) a ha
def Fe(h:MS P nt bx x T w (xw (λT' w'=>MS P nt bx y T' w' Q) Q)):MS P nt bx (.seq x y) T w Q:=by
 intro c hc hok a ha;cases c<;>first|cases hc|skip
 ·simp only[F3,Uc]at hc;split at hc<;>cases hc
 ·rename_i c1 c2;simp only[F3,Uc,LC.seq.injEq]at hc;simp only[okC,Aa]at hok;refine wp_seq<|FF (h c1 hc.1 hok.1 a ha) ?_;rintro(_|id|l|_|c|_) a' w' ⟨T',h1,h2⟩
  ·exact h1 c2 hc.2 hok.2 a' h2
  all_goals exact⟨T',h1,h2⟩
def zl(h:Q .normal T w):MS P nt bx .skip T w Q:=by
 intro c b d a e;cases c<;>first|cases b|skip
 ·exact wp_skip ⟨T,h,e⟩
 ·simp only[F3,Uc]at b;split at b<;>cases b
def zi{id}(h:Q (.exit id) T w):MS P nt bx (.exit id) T w Q:=by
 intro c b d a e;cases c<;>first|(cases b;done)|skip
 ·simp only[F3,Uc]at b;split at b<;>cases b
 ·simp only[F3,Uc,LC.exit.injEq]at b;subst b;exact wp_exit ⟨T,h,e⟩
def Yq(h:Q .ret T w):MS P nt bx .ret T w Q:=by
 intro c b d a e;cases c<;>first|(cases b;done)|skip
 ·simp only[F3,Uc]at b;split at b<;>cases b
 ·exact wp_ret ⟨T,h,e⟩
def vY{id}(h:MS P nt bx x T w (n8 id Q)):MS P nt bx (.blk id x) T w Q:=by
 intro c b j a k;cases c<;>first|(cases b;done)|skip
 ·simp only[F3,Uc]at b;split at b<;>cases b
 ·simp only[F3,Uc,LC.blk.injEq]at b;obtain⟨rfl,b⟩:=b;refine wp_block<|FF (h _ b j a k) ?_;rintro(_|i|l|_|c|_) a' w' ⟨f,d,g⟩
  ·exact⟨f,d,g⟩
  ·simp only[n8]at d;simp only[Exit.inBlock];split
   ·rename_i e;rw[Aw e]at d;exact⟨f,d,g⟩
   ·rename_i e;rw[Ay e]at d;exact⟨f,d,g⟩
  all_goals exact⟨f,d,g⟩
def zh{t b}(h:T t=some (.bool b))(i:b=true->MS P nt bx x T w Q)(j:b=false->MS P nt bx y T w Q):MS P nt bx (.cond (.tmp t) x y) T w Q:=by
 intro c f d a g;cases c<;>first|(cases f;done)|skip
 ·simp only[F3,Uc]at f;split at f<;>cases f
 ·simp only[F3,Uc,LC.cond.injEq]at f;obtain⟨rfl,k,l⟩:=f;simp only[okC,Aa]at d;exact wp_cond_split (MP g h) (λe=>i e _ k d.1 a g)<|λe=>j e _ l d.2 a g
def zj{D}(I:Nat->TS->World->Prop)(m0:Nat)(h0:I m0 T w)(round:∀m T w,I m T w->MS P nt bx x T w (xw (λT' w'=>∃m',m' < m∧I m' T' w') Q)):MS P nt bx (.loop D x) T w Q:=by
 intro c hc hok a ha;cases c<;>first|(cases hc;done)|skip
 ·simp only[F3,Uc]at hc;split at hc<;>cases hc
 ·rename_i c;simp only[F3,Uc,LC.loop.injEq,Nz]at hc;intro b k cs
  have key:∀n T a w,I n T w->Has T nt a->
    ∃e a' w',(∃T',Q e T' w'∧Has T' nt a')∧Arrives P (lone (b.at a<|.code c::.inLoop c::k) cs w) b k cs e a' w':=by
   intro n;induction n using Nat.strongRecOn with
   |_ n ih=>
    intro T a w hI ha;have⟨e,a₁,w₁,⟨T₁,hq,hr₁⟩,harr⟩:=round n T w hI c hc hok a ha b (.inLoop c::k) cs;cases e with
    |normal=>have⟨m',hlt,hI₁⟩:=hq;have⟨e₂,a₂,w₂,hq₂,harr₂⟩:=ih m' hlt T₁ a₁ w₁ hI₁ hr₁;exact⟨e₂,a₂,w₂,hq₂,.of_steps (Steps.trans harr<|.one step_inLoop) harr₂⟩
    |exit id=>exact⟨_,a₁,w₁,⟨T₁,hq,hr₁⟩,.pass (x:=.inLoop c) rfl (λ_ _=>.inl<|by simp) harr⟩
    |goto l=>exact⟨_,a₁,w₁,⟨T₁,hq,hr₁⟩,.pass (x:=.inLoop c) rfl (λ_ _=>.inl<|by simp) harr⟩
    |ret=>exact⟨_,a₁,w₁,⟨T₁,hq,hr₁⟩,.pass (x:=.inLoop c) rfl (λ_ _=>.inl<|by simp) harr⟩
    |panic ch=>exact⟨_,a₁,w₁,⟨T₁,hq,hr₁⟩,.pass (x:=.inLoop c) rfl (λ_ _=>.inl<|by simp) harr⟩
    |outgrown=>exact⟨_,a₁,w₁,⟨T₁,hq,hr₁⟩,.pass (x:=.inLoop c) rfl (λ_ _=>.inl<|by simp) harr⟩
  have⟨e,a',w',hq,harr⟩:=key m0 T a w h0 ha;exact⟨e,a',w',hq,.of_steps (.one step_loop) harr⟩
def Afa(ty it bt:TypeId)(body:LC)(r:Nat):LC:=
 .seq (.rgn [] [⟨some 4,.assign<|.const<|.int .i64 0,it,none⟩])
 (.seq (.seq (.rgn [] [⟨some 5,.assign (.const (.int .i64 0)),it,none⟩])
  (.blk 0 (.loop [] (.seq (.seq (.rgn [] [⟨some 6,.move (.tmp 5),it,none⟩,⟨some 7,.move (.tmp 0),ty,none⟩,⟨some 8,.call {callee:=.builtin .len,args:= #[.tmp 7],argTypes:= #[ty]},it,none⟩,⟨some 9,.binOp .lss it (.tmp 6) (.tmp 8) it,bt,none⟩]) (.cond (.tmp 9) .skip (.exit 0)))
   (.seq (.blk 1 body) (.rgn [] [⟨some 10,.move (.tmp 5),it,none⟩,⟨some 11,.binOp .add it (.tmp 10) (.const (.int .i64 1)) it,it,none⟩,⟨some 5,.assign (.tmp 11),it,none⟩]))))))
 (.seq (.rgn [] [⟨some r,.move (.tmp 1),it,none⟩,⟨some 4,.assign (.tmp r),it,none⟩]) .ret))
def Abh(vs:List Value):TS:=λs=>vs[s]?
def SI{f:FuncId}{rs:List ResultVar}{l:LC}{t:Nat}(o:Lit P f nt bx [.tmp t] l){vs:List Value}(D:vs.length<=nt){R:Ending->World->Prop}(h:MS P nt bx l (Abh vs) w (λe m w'=>(e=.ret∨e=.normal)∧∃u,m t=some u∧R (.returned u) w')):Calls P f vs.toArray w R:=by
 obtain⟨⟨d,c,p,q,F,rfl,r,v,z⟩,_,_⟩:=o;refine Lt p q ?_
 have i:∀s,tm {tmps:=vs.toArray++Array.replicate (d.ntmps - vs.toArray.size) undef,defers:=[]} s=(vs[s]?).getD undef:=by
  intro s;unfold tm;rw[CQ,Ls];split
  ·simp
  ·rename_i j;rw[IZ]at j;rw[Bu (by omega)];rw[DO];split<;>rfl
 refine FF (h c v z _ ⟨by simp;omega,rfl,λs u g=>?_⟩) ?_
 ·rw[i];unfold Abh at g;rw[g];rfl
 ·rintro e a' w' ⟨m,⟨A,u,g,n⟩,k⟩
  have b:(results d a'.tmps).run P w'=.ok u w':=by
   have B:d.results= #[.tmp t]:=by rw[<-DC (xs:=d.results),r]
   have C:a'.tmps[t]?.getD undef=u:=by rw[<-CQ];exact k.2.2 t u g
   unfold results;rw[B];simp[C]
  rcases A with rfl|rfl
  ·exact⟨k.2.1,u,b,n⟩
  ·exact⟨k.2.1,u,b,n⟩
variable {St:Nat->Nat->Prop}{mt:Int->zU}
def Round(P:Program)(nt:Nat)(bx:zN)(mt:Int->zU)(e:TypeId)(es:Nat)(body:LC)(n:Nat)(cs:List V)(k:Int):Prop:=
 ∀(St:Nat->Nat->Prop) (w0:World) (bs:zN) (g cap j:Nat) (w:World) (T:TS),bs.Nodup->(∀g∈bs,g < w0.heap.size)->j < n->Inv P St mt e n cs k (.slice (some ⟨g,0,none⟩) n cap) bs w0 (j * es) w->T 0=some (.slice (some ⟨g,0,none⟩) n cap)->T 1=some (.int .i64<|k+GM cs (j * es))->T 5=some (.int .i64 j)->
  MS P nt bx body T w (λe' T' w'=>e'=.normal∧T' 0=some (.slice (some ⟨g,0,none⟩) n cap)∧T' 1=some (.int .i64<|k+GM cs (j * es+es))∧T' 5=some (.int .i64 j)∧Inv P St mt e n cs k (.slice (some ⟨g,0,none⟩) n cap) bs w0 (j * es+es) w')
def Vt(q:Jr P tb){f:FuncId}{ty it bt e:TypeId}{es Y r:Nat}{Z:List V}{body:LC}(hl:Lit P f nt bx [.tmp 4] (Afa ty it bt body r))(s:2<=nt)(ht:tb ty=some (.sl e es Y Z)){n:Nat}{cs:List V}{k:Int}(o:cs.length=n * es)(hr4:r≠4)
  (i:Round P nt bx mt e es body n cs k):Ld P f (.own e n cs) k (.own e n<|KK mt cs k) (k+D6 cs):=by
 obtain⟨⟨L,c,h,M,N,h4,h5,h6,h7⟩,h8,h9⟩:=hl;refine⟨⟨L,h,by rw[M];rfl,N⟩,λw0 St v bs p t u hG=>?_⟩;have z:n<=lim:=p.1
 obtain⟨A,d,O⟩:∃A d,v=.slice A n d:=by
  obtain⟨_,xs,B,C,_⟩:=p;rcases C.2 with⟨h,R⟩|⟨g,d,D,h,_⟩
  ·exact⟨none,0,by rw[h,R]⟩
  ·exact⟨_,_,h⟩
 have hA:0 < n->∃g,A=some ⟨g,0,none⟩:=by
  intro hp;obtain⟨_,xs,B,C,_⟩:=p;rcases C.2 with⟨h,R⟩|⟨g,d,D,h,_⟩
  ·omega
  ·rw[O]at h;injection h with h;exact⟨g,h⟩
 refine SI (rs:=[]) (vs:=[v,.int .i64 k]) ⟨⟨L,c,h,M,N,h4,h5,h6,h7⟩,h8,h9⟩ s ?_;subst O;refine Fe<|ET<|TY<|ES ?_;refine Fe<|Fe<|ET<|TY<|ES ?_;refine vY<|zj (λm T w=>∃j,j<=n∧m=n - j∧T 0=some (.slice A n d)∧T 1=some (.int .i64<|k+GM cs (j * es))∧T 5=some (.int .i64 j)∧Inv P St mt e n cs k (.slice A n d) bs w0 (j * es) w) n ⟨0,by omega,by omega,rfl,?_,rfl,by rw[Nat.zero_mul];exact Inv.start p hG⟩ ?_
 ·rw[Nat.zero_mul,rW];simp;rfl
 rintro m T w ⟨j,hj,rfl,S,U,W,X⟩;refine Fe<|Fe<|ET<|De W<|De S<|Afh q ht rfl<|Ajg rfl rfl<|ES ?_;refine zh (b:=decide ((j:Int) < (n:Int))) rfl (λhd=>?_)<|λhd=>?_
 ·have l:j < n:=by simp at hd;omega
  obtain⟨g,rfl⟩:=hA (by omega);refine zl ?_;refine Fe<|vY<|zk (i St w0 bs g d j w _ t u l X S U W) ?_;rintro e' T' w' ⟨rfl,F,H,I,J⟩;refine ET<|De I<|eL rfl (by omega) (by unfold lim at z;omega)<|IN rfl<|ES ?_;refine⟨n - (j+1),by omega,j+1,by omega,rfl,F,?_,?_,?_⟩
  ·rw[GZ];exact H
  ·exact congrArg some<|congrArg (Value.int .i64)<|by simp
  ·rw[GZ];exact J
 ·have l:j=n:=by simp at hd;omega
  subst l;refine zi ?_;simp only[xw,n8,Fl];refine Fe<|ET<|De U<|IN (upd_same _ _ _)<|ES ?_;refine Yq ?_;refine⟨.inl rfl,_,rfl,?_,X.done<|by rw[o];exact AJ _⟩;rw[ul cs _ (by rw[o];exact AJ _)]
end
end
section
section
variable {P:Program}{St:Nat->Nat->Prop}{mt:Int->zU}{e:TypeId}{n:Nat}{cs:List V}{k:Int}{bs:zN}{w0 w:World}{p g cap:Nat}
def Vb{α:Type}{f:α->List V}{es:Nat}(a:∀x,(f x).length=es){l:List α}{j:Nat}(b:j < l.length){m:Nat}(i:m < es):(l.flatMap f)[j * es+m]? =(f l[j])[m]?:=by
 have h:=(ou a (Ae b) m).resolve_right (by omega);have c:(l.flatMap f)[j * es+m]? =((l.flatMap f).drop<|j * es+m)[0]?:=by rw[Do,CG]
 have d:(f l[j])[m]? =((f l[j]).drop m)[0]?:=by rw[Do,CG]
 rw[c,d,h,BZ (by rw[Bx,a];omega)]
def QV{α:Type}{f}(h:∀x,Cw (f x)=true):∀l:List α,Cw (l.flatMap f)=true
 |[]=>rfl
 |x::l=>by rw[Ax,QU,h x,QV h l];rfl
def po{g g' n cap cap'}(h:Value.slice (some ⟨g,0,none⟩) n cap=.slice (some ⟨g',0,none⟩) n cap'):g'=g:=by injection h with h1;injection h1 with h1;injection h1 with h1;exact h1.symm
def Inv.int'{kd x}(h:Inv P St mt e n cs k (.slice (some ⟨g,0,none⟩) n cap) bs w0 p w)(b:Cw cs=true)(c:bs.Nodup)(d:cs[p]? =some (.int kd x)):
  ∃u,w.cell? ⟨g,p,none⟩=some u∧w.frozen? ⟨g,p,none⟩=false∧Inv P St mt e n cs k (.slice (some ⟨g,0,none⟩) n cap) bs w0 (p+1) (w.setCell ⟨g,p,none⟩<|.int kd<|k+GM cs p):=by
 have⟨m,a,f,⟨u,i⟩,j,l⟩:=h.int b c d;obtain rfl:=po f;exact⟨u,i,j,l⟩
def Inv.str'{x}(h:Inv P St mt e n cs k (.slice (some ⟨g,0,none⟩) n cap) bs w0 p w)(b:Cw cs=true)(c:bs.Nodup)(d:cs[p]? =some (.str x))(f:(mt<|k+GM cs p).length<=maxLen):
  ∃u,w.cell? ⟨g,p,none⟩=some u∧w.frozen? ⟨g,p,none⟩=false∧Inv P St mt e n cs k (.slice (some ⟨g,0,none⟩) n cap) bs w0 (p+1) (w.setCell ⟨g,p,none⟩<|.string ⟨(mt<|k+GM cs p).toArray⟩):=by
 have⟨o,a,i,⟨u,j⟩,l,m⟩:=h.str b c d f;obtain rfl:=po i;exact⟨u,j,l,m⟩
def Inv.own'{e' m ds f}(h:Inv P St mt e n cs k (.slice (some ⟨g,0,none⟩) n cap) bs w0 p w)(hd:Cw cs=true)(hn:bs.Nodup)(hbs:∀g∈bs,g < w0.heap.size)(hp:cs[p]? =some (.own e' m ds))
  (hm:Ld P f (.own e' m ds) (k+GM cs p) (.own e' m<|KK mt ds<|k+GM cs p) (k+GM cs p+D6 ds)):
  ∃u,w.cell? ⟨g,p,none⟩=some u∧Calls P f #[u,.int .i64 (k+GM cs p)] w (λe' w'=>e'=.returned (.int .i64<|k+GM cs (p+1))∧Inv P St mt e n cs k (.slice (some ⟨g,0,none⟩) n cap) bs w0 (p+1) w'):=by
 have⟨g',cap',u,e1,h1,_,h2⟩:=h.own hd hn hbs hp hm;obtain rfl:=po e1;refine⟨u,h1,?_⟩;rw[oc hp];have e2:k+((GM cs p+Wd (V.own e' m ds):Nat):Int)=k+GM cs p+D6 ds:=by rw[Wd];omega
 rw[e2];exact h2
def jD{c}(a:cs[p]? =some c)(b:Wd c=1):k+(GM cs p:Int)+1=k+GM cs (p+1):=by rw[oc a,b];omega
def Yd{c B}(a:cs[p]? =some c)(h:k+D6 cs<=B):k+(GM cs p:Int)+Wd c<=B:=by have b:=oc a;have d:=yg cs<|p+1;omega
def Ye(a:0<=k):0<=k+(GM cs p:Int):=by omega
def ka:∀(a b:List V) (k:Int),TX mt (a++b) k=TX mt a k++TX mt b (k+Ev a)
 |[],b,k=>by simp[TX,Ev]
 |c::a,b,k=>by cases c<;>(simp only[BY,TX,Ev,ka a b,Ds,Nz];try (congr 2;omega))
def Wc:∀(a b:List V),Ev (a++b)=Ev a+Ev b
 |[],b=>by simp[Ev]
 |c::a,b=>by cases c<;>(simp only[BY,Ev,Wc a b];try omega)
def Z5:∀(cs:List V) (k:Int),Cw cs=true->Cw (TX mt cs k)=true
 |[],_,_=>rfl
 |c::cs,k,h=>by
  have a:deep c=true∧Cw cs=true:=by simpa[Cw]using h
  cases c<;>first|(simp only[TX,Cw,a.1,Z5 cs _ a.2,Eu];done)|skip
  ·rename_i e n ds;have b:Cw ds=true:=a.1;simp only[TX,Cw,deep,U5 ds k b,Z5 cs _ a.2,Eu]
def wN{A D C us}(h:Bn P w St (A++(D++C)) us bs)(hdA:Cw A=true)(hdC:Cw C=true)(hn:bs.Nodup):
  ∃u1 ud u2 b1,us=u1++(ud++u2)∧u1.length=A.length∧ud.length=D.length∧Bn P w St D ud b1∧b1.Nodup∧(∀x∈b1,x∈bs)∧
   (∀w' D',Bn P w' St D' ud b1->(∀x∈bs,x∉b1->w'.heap[x]? =w.heap[x]?)->Bn P w' St (A++(D'++C)) us bs):=by
 have⟨u1,u3,q1,q2,eu,eb,r1,r2⟩:=h.app;have⟨ud,u2,b1,b2,eu2,eb2,r3,r4⟩:=r2.app;have hnd:=hn;rw[eb,eb2]at hnd;have hq:=AA.1 hnd;have hq2:=AA.1 hq.2.1;refine⟨u1,ud,u2,b1,by rw[eu,eu2],r1.length,r3.length,r3,hq2.1,λx hx=>by rw[eb,eb2];simp[hx],λw' D' h1 hw=>?_⟩
 have hin:∀x,x∈q1∨x∈b2->w'.heap[x]? =w.heap[x]?:=λx hx=>hw x (by rw[eb,eb2];rcases hx with hx|hx<;>simp[hx]) (λhm=>by
  rcases hx with hx|hx
  ·exact hq.2.2 x hx x (by simp[hm]) rfl
  ·exact hq2.2.2 x hm x hx rfl)
 rw[eu,eu2,eb,eb2];exact Bn.join (Bn.kept _ hdA r1<|λx hx=>⟨hin x<|.inl hx,λ_=>CY⟩)<|Bn.join h1<|Bn.kept _ hdC r4<|λx hx=>⟨hin x<|.inr hx,λ_=>CY⟩
def Tu(P:Program)(St:Nat->Nat->Prop)(mt:Int->zU)(cs:List V)(k:Int)(us:List Value)(bs:zN)(w0:World)(t:TypeId)(a p:Nat)(w:World):Prop:=
 Bn P w St (TX mt (cs.take p) k++cs.drop p) us bs∧FrB bs w0 w∧w.heap[a]? =some (.cells us.toArray t (0,0))∧a < w.heap.size∧w0.heap.size<=a∧Xw w0 bs
variable {us:List Value}{t:TypeId}{gb:Nat}
def Tu.start(h:Bn P w0 St cs us bs)(b:Cw cs=true)(a:∀g∈bs,g < w0.heap.size)(c:Xw w0 bs):Tu P St mt cs k us bs w0 t w0.heap.size 0 (w0.alloc<|.cells us.toArray t):=by refine⟨?_,FrB.below ⟨rfl,rfl,rfl,by simp,λk d=>Below.heap_alloc _ _ _ d⟩,alloc_heap_new _ _,by simp,AJ _,c⟩;simp only[List.take_zero,TX,Jw,BI];exact Bn.kept cs b h<|λg f=>⟨Below.heap_alloc _ _ _<|a g f,λ_=>CY⟩
def Tu.done(h:Tu P St mt cs k us bs w0 t gb p w)(a:cs.length<=p):Bn P w St (TX mt cs k) us bs∧FrB bs w0 w:=by have:=h.1;rw[C7 a,CI a,AR]at this;exact⟨this,h.2.1⟩
def Tu.skip{c:V}(h:Tu P St mt cs k us bs w0 t gb p w)(a:cs[p]? =some c)(d:∀k,TX mt [c] k=[c]):Tu P St mt cs k us bs w0 t gb (p+1) w:=by
 obtain⟨es,b⟩:=To a;refine⟨?_,h.2⟩
 have f:cs.drop p=c::cs.drop (p+1):=by
  rw[Ae b]at a;injection a with a
  rw[<-a,<-BB b]
 have:=h.1;rw[f]at this;rw[kW a,ka,d,Bk,BY,BI];exact this
def Tu.part{m}(h:Tu P St mt cs k us bs w0 t gb p w)(hd:Cw cs=true)(hn:bs.Nodup)(hbs:∀g∈bs,g < w0.heap.size)(hm:p+m<=cs.length):
  ∃ud b1,ud.length=m∧(∀(j:Nat) (u:Value),ud[j]? =some u->w.cell? ⟨gb,p+j,none⟩=some u)∧Bn P w St ((cs.drop p).take m) ud b1∧b1.Nodup∧(∀g∈b1,g < w.heap.size)∧Xw w b1∧
   ∀w',Bn P w' St (TX mt ((cs.drop p).take m)<|k+Ev (cs.take p)) ud b1->FrB b1 w w'->Tu P St mt cs k us bs w0 t gb (p+m) w':=by
 have hsp:cs.drop p=(cs.drop p).take m++cs.drop (p+m):=by rw[<-Gx,Bv]
 have hdd:Cw (cs.take p)=true∧Cw (cs.drop<|p+m)=true:=by have h1:=hd;rw[<-Bv p cs,QU]at h1;simp only[Aa]at h1;have h2:=h1.2;rw[hsp,QU]at h2;simp only[Aa]at h2;exact⟨h1.1,h2.2⟩
 have h0:=h.1;rw[hsp]at h0;have⟨u1,ud,u2,b1,eu,l1,l2,r,nd,sub,back⟩:=wN h0 (Z5 _ _ hdd.1) hdd.2 hn
 have hla:(TX mt (cs.take p) k).length=p:=by
  have:∀(a:List V) (k:Int),(TX mt a k).length=a.length:=by
   intro a;induction a with
   |nil=>intro k;rfl
   |cons c a ih=>intro k;cases c<;>simp[TX,ih]
  rw[this,At];omega
 have hlt:∀g∈bs,g < w.heap.size:=λg hg=>Bz (hbs g hg) h.2.1.size
 refine⟨ud,b1,by rw[l2,At,Bx];omega,λj u hu=>?_,r,nd,λg hg=>hlt g<|sub g hg,(h.2.2.2.2.2.fr h.2.1).sub sub,λw' h1 hf=>?_⟩
 ·have hj:j < ud.length:=by
   rcases Bb j ud.length with h|h
   ·exact h
   ·rw[Bu h]at hu;cases hu
  simp only[World.cell?,h.2.2.1];have:us[p+j]? =some u:=by rw[eu,BT (by omega),l1,hla,CU,BZ hj];exact hu
  simpa using this
 ·have hgb:gb∉bs:=λhm=>by have:=hbs gb hm;have:=h.2.2.2.2.1;omega
  refine⟨?_,h.2.1.trans<|hf.more sub,?_,Bz h.2.2.2.1 hf.size,h.2.2.2.2⟩
  ·have ht:cs.take (p+m)=cs.take p++(cs.drop p).take m:=List.take_add;rw[ht,ka,Bk];exact back w' _ h1<|λx hx hnx=>hf.block x (hlt x hx) hnx
  ·rw[hf.block gb h.2.2.2.1 (λhm=>hgb<|sub gb hm)];exact h.2.2.1
def Tu.own{e':TypeId}{m:Nat}{ds:List V}{f:FuncId}(h:Tu P St mt cs k us bs w0 t gb p w)(hd:Cw cs=true)(hn:bs.Nodup)(hbs:∀g∈bs,g < w0.heap.size)(hp:cs[p]? =some (.own e' m ds))
  (hm:Ld P f (.own e' m ds) (k+Ev (cs.take p)) (.own e' m<|KK mt ds<|k+Ev (cs.take p)) (k+Ev (cs.take p)+D6 ds)):
  ∃u,w.cell? ⟨gb,p,none⟩=some u∧Calls P f #[u,.int .i64 (k+Ev (cs.take p))] w (λe' w'=>e'=.returned (.int .i64<|k+Ev (cs.take<|p+1))∧Tu P St mt cs k us bs w0 t gb (p+1) w'):=by
 obtain⟨_,hk⟩:=To hp;obtain⟨ud,b1,l,hc,r,nd,hlt,hG,back⟩:=h.part (m:=1) hd hn hbs (by omega)
 have hds:(cs.drop p).take 1=[.own e' m ds]:=by
  have:=hp;rw[Ae hk]at this;injection this with this
  rw[BB hk,this];rfl
 rw[hds]at r back;obtain⟨u,us',q1,q2,e1,e2,hcl,ho,hr⟩:=r;obtain⟨rfl,rfl⟩:=hr;subst e1 e2;rw[AR]at nd hlt hG back;refine⟨u,by simpa using hc 0 u rfl,(hm.2 w St u q1 ho nd hlt hG).mono ?_⟩;rintro e'' w' ⟨h1,h2,h3⟩;refine⟨?_,back w' ⟨u,[],q1,[],rfl,by simp,rfl,h2,rfl,rfl⟩ h3⟩;rw[h1,kW hp,Wc];congr 2;simp only[Ev];omega
def Tu.agg{m ds f}(h:Tu P St mt cs k us bs w0 t gb p w)(hd:Cw cs=true)(hn:bs.Nodup)(hbs:∀g∈bs,g < w0.heap.size)(hpm:p+m<=cs.length)(hds:(cs.drop p).take m=ds)
  (hm:Ld P f (.agg ds) (k+Ev (cs.take p)) (.agg<|TX mt ds<|k+Ev (cs.take p)) (k+Ev (cs.take p)+Ev ds)):
  ∃ud:List Value,ud.length=m∧(∀(j:Nat) (u:Value),ud[j]? =some u->w.cell? ⟨gb,p+j,none⟩=some u)∧Calls P f #[.agg ud.toArray,.int .i64 (k+Ev (cs.take p))] w (λe' w'=>e'=.returned (.int .i64<|k+Ev (cs.take<|p+m))∧Tu P St mt cs k us bs w0 t gb (p+m) w'):=by
 have⟨ud,b1,l,hc,r,nd,hlt,hG,back⟩:=h.part (m:=m) hd hn hbs hpm;rw[hds]at r back;refine⟨ud,l,hc,(hm.2 w St _ b1 ⟨ud,rfl,r⟩ nd hlt hG).mono ?_⟩;rintro e'' w' ⟨h1,⟨us',eu,h2⟩,h3⟩;have eu':us'=ud:=by have h5:=congrArg Array.toList<|Value.agg.inj eu;simpa using h5.symm
 subst eu';refine⟨?_,back w' h2 h3⟩;have ht:cs.take (p+m)=cs.take p++(cs.drop p).take m:=List.take_add;rw[h1,ht,Wc,hds];congr 2;omega
end
end
section
def mB:Int:=9223372036854775000
def gx{α:Type}(cnt:α->Nat)(mk:α->Int->α):List α->Int->List α
 |[],_=>[]
 |x::l,k=>mk x k::gx cnt mk l (k+(cnt x:Int))
def LI{α:Type}(cnt:α->Nat):List α->Nat
 |[]=>0
 |x::l=>cnt x+LI cnt l
def S6{α:Type}{cnt mk}:∀(l:List α) (k:Int),(gx cnt mk l k).length=l.length
 |[],_=>rfl
 |x::l,k=>by rw[gx,AD,AD,S6 l]
section
variable {mt:Int->zU}
def aN{α:Type}{f cnt mk}(a:∀x k,KK mt (f x) k=f (mk x k))(b:∀x,D6 (f x)=cnt x):∀(l:List α) (k:Int),KK mt (l.flatMap f) k=(gx cnt mk l k).flatMap f
 |[],_=>rfl
 |x::l,k=>by rw[Ax,eK,a,b,aN a b l,gx,Ax]
def U4{α:Type}{f cnt}(a:∀x,D6 (f x)=cnt x):∀(l:List α),D6 (l.flatMap f)=LI cnt l
 |[]=>rfl
 |x::l=>by rw[Ax,W5,a,U4 a l,LI]
def oX{α:Type}{f cnt mk e}(a:∀x k,KK mt (f x) k=f (mk x k))(b:∀x,D6 (f x)=cnt x)(l:List α)(k:Int):mkV mt (.own e l.length<|l.flatMap f) k=.own e (gx cnt mk l k).length ((gx cnt mk l k).flatMap f):=by rw[mkV,aN a b,S6]
def W6{α:Type}{f cnt e n}(a:∀x,D6 (f x)=cnt x)(l:List α):Wd (.own e n<|l.flatMap f)=LI cnt l:=by rw[Wd,U4 a]
def mkc{c c':V}{cs cs' k}{n:Nat}(a:mkV mt c k=c')(b:Wd c=n)(d:KK mt cs (k+(n:Int))=cs'):KK mt (c::cs) k=c'::cs':=by rw[KK,a,b,d]
def rX{c:V}{cs n m}(a:Wd c=n)(b:D6 cs=m):D6 (c::cs)=n+m:=by rw[D6,a,b]
def mka{c:V}{cs cs' k}(a:∀r k,TX mt (c::r) k=c::TX mt r k)(b:TX mt cs k=cs'):TX mt (c::cs) k=c::cs':=by rw[a,b]
def mI{α:Type}{f cnt mk e}(b:∀x k,KK mt (f x) k=f (mk x k))(a:∀x,D6 (f x)=cnt x)(l:List α){cs cs':List V}{k:Int}(c:TX mt cs (k+(LI cnt l:Int))=cs'):
  TX mt (.own e l.length (l.flatMap f)::cs) k=.own e (gx cnt mk l k).length ((gx cnt mk l k).flatMap f)::cs':=by rw[TX,aN b a,U4 a,S6,c]
def AcB{c:V}{cs m}(a:∀r,Ev (c::r)=Ev r)(b:Ev cs=m):Ev (c::cs)=m:=by rw[a,b]
def bj{α:Type}{f cnt e n}(a:∀x,D6 (f x)=cnt x)(l:List α){cs:List V}{m:Nat}(b:Ev cs=m):Ev (.own e n (l.flatMap f)::cs)=LI cnt l+m:=by rw[Ev,U4 a,b]
def ib{c:V}{cs}(a:deep c=true)(b:Cw cs=true):Cw (c::cs)=true:=by rw[Cw,a,b];rfl
def dpo{α:Type}{f}(h:∀x,Cw (f x)=true){e:TypeId}{n:Nat}(l:List α):deep (.own e n<|l.flatMap f)=true:=QV h l
def tu{k}{n:Nat}(h:n=0):(some<|Value.int .i64 k)=some (.int .i64<|k+(n:Int)):=by subst h;simp
def pV{cs}(p m:Nat):Ev (cs.take p)+Ev ((cs.drop p).take m)<=Ev cs:=by have a:=Wc (cs.take p)<|cs.drop p;rw[Bv]at a;have b:=Wc ((cs.drop p).take m)<|(cs.drop p).drop m;rw[Bv]at b;omega
def TJ{cs:List V}{k B:Int}{p:Nat}{e:TypeId}{n:Nat}{ds:List V}(a:cs[p]? =some (.own e n ds))(h:k+Ev cs<=B):k+(Ev (cs.take p):Int)+D6 ds<=B:=by
 have b:=pV (cs:=cs) p 1;obtain⟨_,c⟩:=To a
 have d:(cs.drop p).take 1=[.own e n ds]:=by
  rw[Ae c]at a;injection a with a
  rw[BB c,a];rfl
 rw[d]at b;simp only[Ev]at b;omega
def lM{cs ds:List V}{k B:Int}{p m}(a:(cs.drop p).take m=ds)(h:k+Ev cs<=B):k+(Ev (cs.take p):Int)+Ev ds<=B:=by have b:=pV (cs:=cs) p m;rw[a]at b;omega
end
section
variable {P:Program}{nt:Nat}{bx:zN}{T:TS}
def args1{s u}(b:T s=some u):∀a,Has T nt a->(#[Operand.tmp s].map a.eval)= #[u]:=λa c=>by simp[MP c b]
def args2{s t u v}(c:T s=some u)(d:T t=some v):∀a,Has T nt a->(#[Operand.tmp s,Operand.tmp t].map a.eval)= #[u,v]:=λa b=>by simp[MP b c,MP b d]
def Lr{f:FuncId}{rs:List ResultVar}{l:LC}(a:Lit P f nt bx rs l):MT P f:=by obtain⟨⟨b,c,d,e,g,_⟩,_⟩:=a;exact⟨b,d,by rw[e];rfl,g⟩
def tB{f k r}(a:LQ P f [.int .i64 k] (.str r)){w:World}{bs:zN}(c:Xw w bs):Calls P f #[.int .i64 k] w (λe w'=>e=.returned (.string ⟨r.toArray⟩)∧Below w.heap.size w w'):=by refine(a.2 w (λb _=>b < w.heap.size∧b∉bs) [.int .i64 k] (λ_ _ h=>h.1) c ⟨_,_,rfl,rfl,rfl⟩).mono ?_;rintro e w' ⟨v,bs,St',rfl,d,_,_,g,_⟩;exact⟨congrArg Ending.returned g.2.1,d⟩
end
end
section
def sfL(s:Nat):List (Nat×V)->Prop
 |[]=>True
 |(q,c)::L=>(q=s∨KT c=true)∧sfL s L
def sfn{s}:sfL s []:=trivial
def XR{s q c L}(h:KT c=true)(k:sfL s L):sfL s ((q,c)::L):=⟨.inr h,k⟩
def sfs{s c L}(k:sfL s L):sfL s ((s,c)::L):=⟨.inl rfl,k⟩
def nr{s}:∀{L:List (Nat×V)},sfL s L->∀q,q≠s->KT (CP L q)=true
 |[],_,q,_=>rfl
 |(r,c)::L,⟨a,d⟩,q,b=>by
  by_cases e:q=r
  ·subst e;rw[show CP ((q,c)::L) q=c from by simp[CP,upd_same]];rcases a with a|a
   ·exact absurd a b
   ·exact a
  ·rw[show CP ((r,c)::L) q=CP L q from by simp[CP,upd_ne _ _ e]];exact nr d q b
def fY:([]:List V).all RO=true:=rfl
def scc{c:V}{cs}(h:RO c=true)(k:cs.all RO=true):(c::cs).all RO=true:=by rw[By,h,k];rfl
def sco{α:Type}{f}(h:∀x,Cw (f x)=true){e:TypeId}{n:Nat}(l:List α):RO (.own e n<|l.flatMap f)=true:=by unfold RO;rw[QM];exact UR<|QV h l
def gY:∀{a b:List V},HF (a++b)=(HF a&&HF b)
 |[],b=>by simp[HF]
 |c::a,b=>by rw[BY,HF,HF,gY (a:=a),Bool.and_assoc]
def ZX{α:Type}{f}(h:∀x,HF (f x)=true):∀l:List α,HF (l.flatMap f)=true
 |[]=>rfl
 |x::l=>by rw[Ax,gY,h x,ZX h l];rfl
def ZR{α:Type}{f}(h:∀x,HF (f x)=true){n:Nat}(l:List α):RO (.arg n<|l.flatMap f)=true:=by unfold RO;rw[QM];exact ZX h l
def adc{c:V}{cs}(a:Nd c=true)(b:HF cs=true):HF (c::cs)=true:=by rw[HF,a,b];rfl
def ada{α:Type}{f}(h:∀x,HF (f x)=true){n:Nat}(l:List α):Nd (.arg n<|l.flatMap f)=true:=ZX h l
mutual
def upV:V->V
 |.dat n cs=>.arg n<|upL cs
 |.agg cs=>.agg<|upL cs
 |.int k n=>.int k n
 |.bool b=>.bool b
 |.str s=>.str s
 |_=>.undef
def upL:List V->List V
 |[]=>[]
 |c::cs=>upV c::upL cs
end
def AaM{cs}(h:cs=[]):upL cs=[]:=by subst h;rfl
mutual
def plD:V->Bool
 |.dat _ cs=>bZ cs
 |.int _ _=>true
 |.bool _=>true
 |.str _=>true
 |_=>false
def bZ:List V->Bool
 |[]=>true
 |c::cs=>plD c&&bZ cs
end
section
variable {w:World}
mutual
def Rd.up:∀(c:V) {v:Value},plD c=true->Rd w (StA w) c v->Rd w (StA w) (upV c) v
 |.int _ _,_,_,h=>h
 |.bool _,_,_,h=>h
 |.str _,_,_,h=>h
 |.dat _ cs,_,hp,⟨hn,A,c,e,hc,h,h0⟩=>⟨hn,A,c,e,hc,λhz=>by
   have⟨b,off,ea,hr⟩:=h hz;refine⟨b,off,ea,λhne o=>?_,Dp.up b off cs hp hr⟩;cases cs with
   |nil=>exact absurd rfl hne
   |cons c cs=>exact hr.1.1,λhz=>AaM (h0 hz)⟩
 |.own _ _ _,_,hp,_=>by cases hp
 |.arg _ _,_,hp,_=>by cases hp
 |.pin _ _ _,_,hp,_=>by cases hp
 |.agg _,_,hp,_=>by cases hp
 |.tup _,_,hp,_=>by cases hp
 |.box _,_,hp,_=>by cases hp
 |.uni _ _ _,_,hp,_=>by cases hp
 |.same _,_,hp,_=>by cases hp
 |.val _ _,_,hp,_=>by cases hp
 |.cref _ _,_,hp,_=>by cases hp
 |.adr _ _,_,hp,_=>by cases hp
 |.gh _ _,_,hp,_=>by cases hp
 |.undef,_,hp,_=>by cases hp
def Dp.up(b:Nat):∀(off:Nat) (cs:List V),bZ cs=true->Dp w (StA w) b off cs->Dp w (StA w) b off (upL cs)
 |_,[],_,_=>trivial
 |off,c::cs,d,⟨⟨e,u,f,g⟩,h⟩=>by
  have a:plD c=true∧bZ cs=true:=by simpa[bZ]using d
  exact⟨⟨e,u,f,Rd.up c a.1 g⟩,Dp.up b (off+1) cs a.2 h⟩
end
def Pz.up:∀(cs:List V) {us:List Value},bZ cs=true->Pz w (StA w) cs us->Pz w (StA w) (upL cs) us
 |[],_,_,h=>h
 |c::cs,_,d,⟨u,b,e,f,g⟩=>by
  have a:plD c=true∧bZ cs=true:=by simpa[bZ]using d
  exact⟨u,b,e,Rd.up c a.1 f,Pz.up cs a.2 g⟩
end
def Ups(d a:List V):Prop:=upL d=a∧bZ d=true
def upn:Ups [] []:=⟨rfl,rfl⟩
def upc{c c':V}{cs cs'}(a:upV c=c'∧plD c=true)(b:Ups cs cs'):Ups (c::cs) (c'::cs'):=⟨by rw[upL,a.1,b.1],by rw[bZ,a.2,b.2];rfl⟩
def AaO{a b a' b'}(e:Ups a a')(f:Ups b b'):Ups (a++b) (a'++b'):=by
 obtain⟨rfl,g⟩:=e;obtain⟨rfl,p2⟩:=f;induction a with
 |nil=>exact⟨rfl,p2⟩
 |cons c a h=>
  have d:plD c=true∧bZ a=true:=by simpa[bZ]using g
  exact upc ⟨rfl,d.1⟩<|h d.2
def nO{α:Type}{f g}(h:∀x,Ups (f x)<|g x):∀l:List α,Ups (l.flatMap f) (l.flatMap g)
 |[]=>upn
 |x::l=>by rw[Ax,Ax];exact AaO (h x)<|nO h l
def gP{α:Type}{f g}(h:∀x,Ups (f x)<|g x)(l:List α):upV (.dat l.length<|l.flatMap f)=.arg l.length (l.flatMap g)∧plD (.dat l.length<|l.flatMap f)=true:=by have⟨a,b⟩:=nO h l;exact⟨by rw[upV,a],by rw[plD];exact b⟩
def W4(n:Int):Ups (Ah n) (Ah n):=⟨rfl,rfl⟩
def kH{w d a v}(h:Ups d a)(b:fZ w (StA w) (.agg d) v):fZ w (StA w) (.agg a) v:=by have⟨us,e,b⟩:=b;exact⟨us,e,by rw[<-h.1];exact b.up _ h.2⟩
end
end Go.Proofs.YtdnlfoelbfcmnaaGreatDoor

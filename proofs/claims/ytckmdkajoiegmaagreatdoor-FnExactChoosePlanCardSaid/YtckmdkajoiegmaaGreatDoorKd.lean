/-
 A machine on data, part 4: functions that mark. Over no program; no conditions.
-/
import Derived.Test.YtckmdkajoiegmaaGreatDoorKp
import Derived.Test.YtckmdkajoiegmaaGreatDoorKq
import Derived.Test.YtckmdkajoiegmaaGreatDoorKb
import Derived.Test.YtckmdkajoiegmaaGreatDoorKc
open Go.RowKit
set_option linter.unusedVariables false
set_option linter.unusedSimpArgs false
namespace Go.Proofs.YtckmdkajoiegmaaGreatDoor
section
variable {P:Program}{w w':World}{St St':Nat->Nat->Prop}
theorem M7:∀{a b:List V},Ca (a++b)=(Ca a&&Ca b)
 |[],b=>by simp[Ca]
 |c::a,b=>by rw[BN,Ca,Ca,M7 (a:=a),Bool.and_assoc]
theorem Pi{cs:List V}{p:Nat}{c:V}(hp:cs[p]? =some c):cs=cs.take p++c::cs.drop (p+1)∧p < cs.length:=by
 have hk:p < cs.length:=by
  rcases BZ p cs.length with h|h
  ·exact h
  ·rw[AU h]at hp;cases hp
 have hx:cs[p]=c:=by rw[Ae hk]at hp;injection hp
 refine⟨?_,hk⟩
 rw[<-hx,<-Bz hk,Cc]
theorem dO{e:TypeId}{n:Nat}{cs:List V}{v:Value}{bs:List Nat}{p:Nat}{c:V}(h:Ow P w St (.own e n cs) v bs)(hd:Ca cs=true)(hn:bs.Nodup)(hp:cs[p]? =some c):
  ∃g cap cur u b1,v=.slice (some ⟨g,0,none⟩) n cap∧w.heap[g]? =some (.cells cur e (0,0))∧w.cell? ⟨g,p,none⟩=some u∧w.frozen? ⟨g,p,none⟩=false∧g∈bs∧g∉b1∧b1.Nodup∧(∀x∈b1,x∈bs)∧c.C5=true∧Ow P w St c u b1∧
   (∀w' c',Ow P w' St c' u b1->c'.C5=true->(∀x∈bs,x∉b1->w'.heap[x]? =w.heap[x]?)->Ow P w' St (.own e n (cs.set p c')) v bs)∧
   (b1=[]->∀u' c',(∀w,Ow P w St c' u' [])->c'.C5=true->Ow P (w.setCell ⟨g,p,none⟩ u') St (.own e n (cs.set p c')) v bs):=by
 obtain⟨hl,xs,bs',h1,h2,h3,h4,h5⟩:=h
 obtain⟨es,hk⟩:=Pi hp
 have hpos:n≠0:=λh0=>by rw[h5 h0]at hk;simp at hk
 rcases h1.2 with h|⟨g,cap,cur,rfl,hg,hh,hcap,hm,hsz,hx⟩
 ·exact absurd h.2 hpos
 have h20:=h2
 rw[es]at h20
 obtain⟨us1,us2,q1,q2,eu,eb,r1,r2⟩:=h20.app
 obtain⟨u,us3,b1,b2,eu2,eb2,hc,r3,r4⟩:=r2
 have hl1:us1.length=p:=by rw[r1.length,Bk];omega
 have hxl:xs.length=n * PR P e:=h1.1
 have hpx:p < xs.length:=by rw[eu,eu2,AR,AL];omega
 have hxp:xs[p]? =some u:=by rw[eu,eu2,Bn (by omega),hl1,Ge,BV]
 have hcur:cur[p]? =some u:=by
  have e1:=hxp
  rw[<-hx,D2,AJ (by omega)]at e1
  simpa using e1
 have hbs:bs=g::bs':=by rw[h3];rfl
 have hnd:g∉bs'∧bs'.Nodup:=by rw[hbs]at hn;exact Bx.1 hn
 have hq:q1.Nodup∧(b1++b2).Nodup∧∀x∈q1,∀y∈b1++b2,x≠y:=by have:=hnd.2;rw[eb,eb2]at this;exact As.1 this
 have hq2:=As.1 hq.2.1
 have hset:cs.set p=λc'=>cs.take p++c'::cs.drop (p+1):=by
  funext c'
  rw[DW,AJ hk]
 have hdd:Ca (cs.take p)=true∧Ca (cs.drop (p+1))=true:=by
  rw[es,M7,Ca]at hd
  simp only[Ab]at hd
  exact⟨hd.1,hd.2.2⟩
 have hcell:w.cell? ⟨g,p,none⟩=some u:=by simp only[World.cell?,hh];simpa using hcur
 have hnil:∀c',n=0->cs.set p c'=[]:=λc' h0=>absurd h0 hpos
 refine⟨g,cap,cur,u,b1,rfl,hh,hcell,by simp[World.frozen?,hh],by rw[hbs];simp,λhm=>hnd.1 (by rw[eb,eb2];simp[hm]),hq2.1,λx hx=>by rw[hbs,eb,eb2];simp[hx],hc,r3,?_,?_⟩
 ·intro w' c' ho hc' hw
  have hg':w'.heap[g]? =w.heap[g]?:=hw g (by rw[hbs];simp) (λhm=>hnd.1 (by rw[eb,eb2];simp[hm]))
  have hin:∀x,x∈q1∨x∈b2->w'.heap[x]? =w.heap[x]?:=λx hx=>hw x (by rw[hbs,eb,eb2];rcases hx with hx|hx<;>simp[hx]) (λhm=>by
   rcases hx with hx|hx
   ·exact hq.2.2 x hx x (by simp[hm]) rfl
   ·exact hq2.2.2 x hm x hx rfl)
  refine⟨hl,xs,bs',⟨h1.1,.inr ⟨g,cap,cur,rfl,hg,by rw[hg'];exact hh,hcap,hm,hsz,hx⟩⟩,?_,h3,h4,hnil c'⟩
  rw[hset,eu,eu2,eb,eb2]
  exact AY.join (AY.kept _ hdd.1 r1 (λx hx=>⟨hin x (.inl hx),λ_=>CV⟩)) ⟨u,us3,b1,b2,rfl,rfl,hc',ho,AY.kept _ hdd.2 r4 (λx hx=>⟨hin x (.inr hx),λ_=>CV⟩)⟩
 ·intro hb0 u' c' ho hc'
  have hother:∀x,x≠g->(w.setCell ⟨g,p,none⟩ u').heap[x]? =w.heap[x]?:=λx hx=>Below.heap_setCell _ _ _ _ hx
  have hnew:(w.setCell ⟨g,p,none⟩ u').heap[g]? =some (.cells (cur.setIfInBounds p u') e (0,0)):=by
   simp only[World.setCell,Array.getElem?_modify,Er,hh]
   rfl
  subst hb0
  refine⟨hl,us1++u'::us3,bs',⟨?_,.inr ⟨g,cap,cur.setIfInBounds p u',rfl,hg,hnew,hcap,hm,by rw[Array.size_setIfInBounds];exact hsz,?_⟩⟩,?_,h3,h4,hnil c'⟩
  ·rw[<-hxl,eu,eu2];simp
  ·rw[Array.toList_setIfInBounds,List.take_set,hx,eu,eu2,Gq _ _ (by omega),hl1,Ge,Kx]
  ·rw[hset,eb,eb2]
   have hne:∀x,x∈q1∨x∈b2->x≠g:=λx hx e=>hnd.1 (by rw[<-e,eb,eb2];rcases hx with hx|hx<;>simp[hx])
   exact AY.join (AY.kept _ hdd.1 r1 (λx hx=>⟨hother x (hne x (.inl hx)),λ_=>CV⟩)) ⟨u',us3,[],b2,rfl,rfl,hc',ho _,AY.kept _ hdd.2 r4 (λx hx=>⟨hother x (hne x (.inr hx)),λ_=>CV⟩)⟩
end
mutual
def Ti:V->Nat
 |.int _ _=>1
 |.str _=>1
 |.own _ _ cs=>D7 cs
 |_=>0
def D7:List V->Nat
 |[]=>0
 |c::cs=>Ti c+D7 cs
end
section
variable (mt:Int->List UInt8)
mutual
def mkV:V->Int->V
 |.int kd _,k=>.int kd k
 |.str _,k=>.str (mt k)
 |.own e n cs,k=>.own e n (Jb cs k)
 |c,_=>c
def Jb:List V->Int->List V
 |[],_=>[]
 |c::cs,k=>mkV c k::Jb cs (k+Ti c)
end
def Rl:List V->Int->List V
 |[],_=>[]
 |.own e n cs::r,k=>.own e n (Jb mt cs k)::Rl r (k+D7 cs)
 |c::r,k=>c::Rl r k
end
def EP:List V->Nat
 |[]=>0
 |.own _ _ cs::r=>D7 cs+EP r
 |_::r=>EP r
theorem Sk:∀(a b:List V),D7 (a++b)=D7 a+D7 b
 |[],b=>by simp[D7]
 |c::a,b=>by rw[BN,D7,D7,Sk a b];omega
section
variable {mt:Int->List UInt8}
theorem XE:∀(a b:List V) (k:Int),Jb mt (a++b) k=Jb mt a k++Jb mt b (k+D7 a)
 |[],b,k=>by simp[Jb,D7]
 |c::a,b,k=>by rw[BN,Jb,Jb,XE a b,BN,D7,show k+((Ti c+D7 a:Nat):Int)=k+Ti c+D7 a by omega]
theorem RS:∀(a:List V) (k:Int),(Jb mt a k).length=a.length
 |[],k=>rfl
 |c::a,k=>by rw[Jb,AL,AL,RS a]
mutual
theorem ji:∀(c:V) (k:Int),deep c=true->deep (mkV mt c k)=true
 |.tok _,_,_=>rfl
 |.int _ _,_,_=>rfl
 |.bool _,_,h=>h
 |.str _,_,_=>rfl
 |.own _ _ cs,k,h=>QA cs k h
 |.agg _,_,h=>h
 |.dat _ _,_,h=>h
 |.arg _ _,_,h=>h
 |.pin _ _ _,_,h=>h
 |.tup _,_,h=>h
 |.box _,_,h=>h
 |.uni _ _ _,_,h=>h
 |.same _,_,h=>h
 |.val _ _,_,h=>h
 |.cref _ _,_,h=>h
 |.adr _ _,_,h=>h
 |.gh _ _,_,h=>h
 |.undef,_,h=>h
theorem QA:∀(cs:List V) (k:Int),Ca cs=true->Ca (Jb mt cs k)=true
 |[],_,_=>rfl
 |c::cs,k,h=>by
  have hd:deep c=true∧Ca cs=true:=by simpa[Ca]using h
  rw[Jb,Ca,ji c k hd.1,QA cs _ hd.2];rfl
end
def pfx(mt:Int->List UInt8)(cs:List V)(k:Int)(p:Nat):List V:=Jb mt (cs.take p) k++cs.drop p
def GB(cs:List V)(p:Nat):Nat:=D7 (cs.take p)
theorem ln(cs:List V)(k:Int):pfx mt cs k 0=cs:=by simp[pfx,Jb]
theorem oe(cs:List V)(k:Int)(p:Nat)(h:cs.length<=p):pfx mt cs k p=Jb mt cs k:=by simp[pfx,CH h,Dk h]
theorem gw(cs:List V):GB cs 0=0:=rfl
theorem jd(cs:List V)(p:Nat)(h:cs.length<=p):GB cs p=D7 cs:=by simp[GB,CH h]
theorem dK{cs:List V}{k:Int}{p:Nat}{c:V}(h:cs[p]? =some c):(pfx mt cs k p)[p]? =some c:=by
 obtain⟨_,hk⟩:=Pi h
 have hl:(Jb mt (cs.take p) k).length=p:=by rw[RS,Bk];omega
 rw[pfx,Bn (by omega),hl,Ge,Dm,CP,h]
theorem aO{cs:List V}{p:Nat}{c:V}(h:cs[p]? =some c):cs.take (p+1)=cs.take p++[c]:=by
 obtain⟨_,hk⟩:=Pi h
 rw[Au hk]
 rw[Ae hk]at h
 injection h with h
 rw[h]
theorem c5{cs:List V}{p:Nat}{c:V}(h:cs[p]? =some c):GB cs (p+1)=GB cs p+Ti c:=by
 rw[GB,aO h,Sk,D7,D7];rfl
theorem mU(cs:List V)(p:Nat):GB cs p<=D7 cs:=by
 have:=Sk (cs.take p) (cs.drop p)
 rw[Cc]at this
 unfold GB
 omega
theorem lm{cs:List V}{k:Int}{p:Nat}{c:V}(h:cs[p]? =some c):(pfx mt cs k p).set p (mkV mt c (k+GB cs p))=pfx mt cs k (p+1):=by
 obtain⟨_,hk⟩:=Pi h
 have hl:(Jb mt (cs.take p) k).length=p:=by rw[RS,Bk];omega
 have hd:cs.drop p=c::cs.drop (p+1):=by
  rw[Ae hk]at h
  injection h with h
  rw[<-h,<-Bz hk]
 rw[pfx,pfx,aO h,XE,Gq _ _ (by omega),hl,Ge,hd,Kx]
 simp[Jb,GB]
theorem Sm{cs:List V}{k:Int}{p:Nat}(h:Ca cs=true):Ca (pfx mt cs k p)=true:=by
 rw[<-Cc p cs,M7]at h
 simp only[Ab]at h
 rw[pfx,M7,QA _ _ h.1,h.2];rfl
end
section
variable {P:Program}{St:Nat->Nat->Prop}{mt:Int->List UInt8}
def SI(w:World)(bs:List Nat):Prop:=Glb w (λb _=>b < w.heap.size∧b∉bs)
theorem SI.fr{w0 w:World}{bs:List Nat}(h:SI w0 bs)(f:FrB bs w0 w):SI w bs:=λp hp=>⟨λo=>⟨A6 ((h p hp).1 o).1 f.size,((h p hp).1 o).2⟩,λi x hx=>by rw[BM (f.block p.1 ((h p hp).1 0).1 ((h p hp).1 0).2)];exact(h p hp).2 i x hx⟩
theorem SI.sub{w:World}{bs b1:List Nat}(h:SI w bs)(hs:∀g∈b1,g∈bs):SI w b1:=λp hp=>⟨λo=>⟨((h p hp).1 o).1,λhm=>((h p hp).1 o).2 (hs _ hm)⟩,(h p hp).2⟩
def Inv(P:Program)(St:Nat->Nat->Prop)(mt:Int->List UInt8)(e:TypeId)(n:Nat)(cs:List V)(k:Int)(v:Value)(bs:List Nat)(w0:World)(p:Nat)(w:World):Prop:=
 Ow P w St (.own e n (pfx mt cs k p)) v bs∧FrB bs w0 w∧SI w0 bs
def Kh(P:Program)(f:FuncId)(c:V)(k:Int)(c':V)(k':Int):Prop:=
 JM P f∧∀w St v bs,Ow P w St c v bs->bs.Nodup->(∀g∈bs,g < w.heap.size)->SI w bs->Calls P f #[v,.int .i64 k] w (λe w'=>e=.returned (.int .i64 k')∧Ow P w' St c' v bs∧FrB bs w w')
variable {e:TypeId}{n:Nat}{cs:List V}{k:Int}{v:Value}{bs:List Nat}{w0 w:World}{p:Nat}
theorem Inv.start(h:Ow P w0 St (.own e n cs) v bs)(hG:SI w0 bs):Inv P St mt e n cs k v bs w0 0 w0:=⟨by rw[ln];exact h,FrB.refl _ _,hG⟩
theorem Inv.glb(h:Inv P St mt e n cs k v bs w0 p w):SI w bs:=h.2.2.fr h.2.1
theorem Inv.done(h:Inv P St mt e n cs k v bs w0 p w)(hp:cs.length<=p):Ow P w St (.own e n (Jb mt cs k)) v bs∧FrB bs w0 w:=by
 have:=h.1
 rw[oe _ _ _ hp]at this
 exact⟨this,h.2.1⟩
theorem Inv.int{kd:IntKind}{x:Int}(h:Inv P St mt e n cs k v bs w0 p w)(hd:Ca cs=true)(hn:bs.Nodup)(hp:cs[p]? =some (.int kd x)):
  ∃g cap,v=.slice (some ⟨g,0,none⟩) n cap∧(∃u,w.cell? ⟨g,p,none⟩=some u)∧w.frozen? ⟨g,p,none⟩=false∧Inv P St mt e n cs k v bs w0 (p+1) (w.setCell ⟨g,p,none⟩ (.int kd (k+GB cs p))):=by
 obtain⟨g,cap,cur,u,b1,e1,e2,e3,e4,e5,e6,e7,e8,e9,e10,e11,e12⟩:=dO h.1 (Sm hd) hn (dK hp)
 refine⟨g,cap,e1,⟨u,e3⟩,e4,?_,h.2.1.trans (FrB.set e5 _),h.2.2⟩
 rw[<-lm hp]
 exact e12 e10.1 _ _ (λw=>⟨rfl,rfl⟩) rfl
theorem Inv.str{x:List UInt8}(h:Inv P St mt e n cs k v bs w0 p w)(hd:Ca cs=true)(hn:bs.Nodup)(hp:cs[p]? =some (.str x))(hm:(mt (k+GB cs p)).length<=maxLen):
  ∃g cap,v=.slice (some ⟨g,0,none⟩) n cap∧(∃u,w.cell? ⟨g,p,none⟩=some u)∧w.frozen? ⟨g,p,none⟩=false∧Inv P St mt e n cs k v bs w0 (p+1) (w.setCell ⟨g,p,none⟩ (.string ⟨(mt (k+GB cs p)).toArray⟩)):=by
 obtain⟨g,cap,cur,u,b1,e1,e2,e3,e4,e5,e6,e7,e8,e9,e10,e11,e12⟩:=dO h.1 (Sm hd) hn (dK hp)
 refine⟨g,cap,e1,⟨u,e3⟩,e4,?_,h.2.1.trans (FrB.set e5 _),h.2.2⟩
 rw[<-lm hp]
 exact e12 e10.1 _ _ (λw=>⟨rfl,rfl,hm⟩) rfl
theorem Inv.grow{w':World}(h:Inv P St mt e n cs k v bs w0 p w)(hd:Ca cs=true)(hbs:∀g∈bs,g < w0.heap.size)(hb:Below w.heap.size w w'):Inv P St mt e n cs k v bs w0 p w':=
 ⟨Ow.kept (.own e n (pfx mt cs k p)) (by rw[deep];exact Sm hd) h.1 (λg hg=>⟨hb.block g (A6 (hbs g hg) h.2.1.size),λ_=>CV⟩),h.2.1.trans (FrB.below hb),h.2.2⟩
theorem Inv.own{e':TypeId}{m:Nat}{ds:List V}{f:FuncId}{k':Int}(h:Inv P St mt e n cs k v bs w0 p w)(hd:Ca cs=true)(hn:bs.Nodup)(hbs:∀g∈bs,g < w0.heap.size)(hp:cs[p]? =some (.own e' m ds))
  (hm:Kh P f (.own e' m ds) (k+GB cs p) (.own e' m (Jb mt ds (k+GB cs p))) k'):
  ∃g cap u,v=.slice (some ⟨g,0,none⟩) n cap∧w.cell? ⟨g,p,none⟩=some u∧u.oneCell'=true∧Calls P f #[u,.int .i64 (k+GB cs p)] w (λe' w'=>e'=.returned (.int .i64 k')∧Inv P St mt e n cs k v bs w0 (p+1) w'):=by
 obtain⟨g,cap,cur,u,b1,e1,e2,e3,e4,e5,e6,e7,e8,e9,e10,e11,e12⟩:=dO h.1 (Sm hd) hn (dK hp)
 have hlt:∀x∈bs,x < w.heap.size:=λx hx=>A6 (hbs x hx) h.2.1.size
 refine⟨g,cap,u,e1,e3,(Ow.rd _ e10 rfl).oneCell,(hm.2 w St u b1 e10 e7 (λx hx=>hlt x (e8 x hx)) (h.glb.sub e8)).mono ?_⟩
 rintro e' w' ⟨h1,h2,h3⟩
 refine⟨h1,?_,h.2.1.trans (h3.more e8),h.2.2⟩
 rw[<-lm hp]
 exact e11 w' _ h2 rfl (λx hx hnx=>h3.block x (hlt x hx) hnx)
end
end Go.Proofs.YtckmdkajoiegmaaGreatDoor
namespace Go.Proofs.YtckmdkajoiegmaaGreatDoor
section
variable {P:Program}{nt:Nat}{base:Bs}{bx:List Nat}{St St' St0:Nat->Nat->Prop}{B:Nat->List Nat}{hand:List Nat}{σ σ':PS}{a:Act}{w w' w0:World}{K:PS->Prop}
theorem FrB.toBelow{bs:List Nat}(hf:FrB bs w w')(hb:∀g∈bs,¬base g)(hz:∀b,base b->b < w.heap.size):BelowK base.K w w':=
 ⟨hf.os,hf.tape,hf.output,hf.size,λk hk=>hf.block k (hz k hk) (λhm=>hb k hm hk)⟩
def Src(P:Program)(nt:Nat)(bx:List Nat)(σ:PS)(opA:Op)(s:Nat)(c c' cS:V):Prop:=
 ∀base St B a w o,HSim P nt bx base St B [] σ a w->o.op=opA->∃v bs,(execOp a.eval o).run P w=.ok (.value v) w∧Ow P w St c v bs∧bs.Nodup∧(∀g∈bs,g∈B s)∧∀w',Ow P w' St c' v bs->FrB bs w w'->Cb P w' St (tm a) cS (tm a s) (B s)
theorem oO{s:Nat}{e:TypeId}{n n':Nat}{cs cs':List V}(hs:σ s=.own e n cs):Src P nt bx σ (.move (.tmp s)) s (.own e n cs) (.own e n' cs') (.own e n' cs'):=by
 intro base St B a w o h ho
 have h1:=h.slot s
 rw[hs]at h1
 exact⟨tm a s,B s,by simp[execOp,ho];rfl,h1,h.nodup s,λg hg=>hg,λw' h2 _=>h2⟩
theorem fU{tb:Tb}(htb:GA P tb){s:Nat}{T:TypeId}{n:Nat}{z:List V}{fs:List (Nat×Nat)}{cs cs':List V}(hT:tb T=some (.st n z fs))(hs:σ s=.box cs)(hn:cs.length=n):Src P nt bx σ (.load T (.tmp s)) s (.agg cs) (.agg cs') (.box cs'):=by
 intro base St B a w o h ho
 have h1:=h.slot s
 rw[hs]at h1
 obtain⟨g,Tg,bs',arr,e1,e2,h2,hB,h3⟩:=h1
 have hnd:=h.nodup s
 rw[hB]at hnd
 have hnd2:=Bx.1 hnd
 refine⟨.agg arr.toList.toArray,bs',?_,⟨arr.toList,rfl,h2⟩,hnd2.2,λx hx=>by rw[hB];simp[hx],?_⟩
 ·have hagr:=htb _ _ hT
  have hl:arr.toList.length=n:=by rw[h2.length,hn]
  have hr:=Ep (P:=P) (w:=w) ⟨g,0,none⟩ arr.toList (λj v hv=>by
   rw[add_plain]
   simp only[World.cell?,e2,CL]
   simpa using hv)
  rw[hl]at hr
  have hev:a.eval (.tmp s)=.pointer (some ⟨g,0,none⟩):=e1
  simp[execOp,ho,hev,Instr.loadAt,Instr.sureAddr,loadVar,hagr.isAgg,hagr.sizeOf,TyD.SK,TyD.size,hr]
 ·rintro w' ⟨us,eu,h4⟩ hf
  have eu':us=arr.toList:=by
   have:=(Value.agg.inj eu)
   have h5:=congrArg Array.toList this
   simpa using h5.symm
  subst eu'
  have hlt:g < w.heap.size:=(h.range s g (by rw[hB];simp)).2
  exact⟨g,Tg,bs',arr,e1,by rw[hf.block g hlt hnd2.1];exact e2,h4,hB,h3⟩
theorem PD{ops:Array Oper}{o:Oper}{d:Option Nat}{p:Op}{t:TypeId}(h:Cx ops o=⟨d,p,t,none⟩):o.dst=d∧o.op=p∧o.guard=none:=by
 have e1:=congrArg LO.dst h
 have e2:=congrArg LO.op h
 have e3:=congrArg LO.g h
 refine⟨e1,e2,?_⟩
 simpa[Cx]using e3
theorem PN{ops:Array Oper}{R:Exit->Act->World->Prop}{o:Oper}{os:List Oper}(hg:o.guard=none)(h:o.wp P a w (wpList P ops R os) R):wpList P ops R (o::os) a w:=by
 have hw:Region.wanted o (yielded ops a.tmps)=true:=by simp[Region.wanted,hg]
 unfold wpList
 rw[AJ hw]
 exact .inl h
theorem af{opA:Op}{s tA tk tR tK:Nat}{tyA tyk tyR tyK:TypeId}{ts:Array TypeId}{f:FuncId}{cns:List Nat}{y:LC}{k k':Int}{c c' cS:V}{Q:Exit->PS->Prop}
  (hsrc:Src P nt bx σ opA s c c' cS) (hna:gR opA=false) (hk:σ tK=.int .i64 k) (hm:Kh P f c k c' k') (hd:deep c=true) (hsafe:∀q,q≠s->H0 (σ q)=true) (hb:(CN cS).isSome=(CN (σ s)).isSome) (hrf:DG cS=none)
  (hne:tK≠tA∧tA≠tk) (hcn:cns.contains tK=false) (hcR:cns.contains tR=false)
  (h:LS P nt bx y (upd (upd (upd (upd (upd σ s cS) tA .undef) tk .undef) tR .undef) tK (.int .i64 k')) Q):
  LS P nt bx (.seq (.rgn cns [⟨some tA,opA,tyA,none⟩,⟨some tk,.move (.tmp tK),tyk,none⟩,⟨some tR,.call {callee:=.value (.func f),args:= #[.tmp tA,.tmp tk],argTypes:=ts},tyR,none⟩,⟨some tK,.assign (.tmp tR),tyK,none⟩]) y) σ Q:=by
 refine Xz ?_
 intro c0 hc hok hL
 cases c0<;>first|cases hc|skip
 rename_i id ops d
 simp only[E2,PU]at hc
 split at hc
 ·cases hc
 rename_i hdd
 simp only[LC.rgn.injEq,KB]at hc
 have hd0:d=false:=by simpa using hdd
 subst hd0
 obtain⟨o1,l1,e1,q1,hc⟩:=DC.1 hc
 obtain⟨o2,l2,rfl,q2,hc⟩:=DC.1 hc
 obtain⟨o3,l3,rfl,q3,hc⟩:=DC.1 hc
 obtain⟨o4,l4,rfl,q4,hc⟩:=DC.1 hc
 have:=List.map_eq_nil_iff.1 hc
 subst this
 obtain⟨a1,b1,g1⟩:=PD q1
 obtain⟨a2,b2,g2⟩:=PD q2
 obtain⟨a3,b3,g3⟩:=PD q3
 obtain⟨a4,b4,g4⟩:=PD q4
 simp only[okC,e1,A7,D9,Cj,Ab]at hok
 obtain⟨k1,k2,k3,k4⟩:=hok
 have d1:=O5 k1 a1 (by rw[b1];exact hna)
 have d2:=O5 k2 a2 (by rw[b2];rfl)
 have hL3:okA bx cns ⟨some tR,.call {callee:=.value (.func f),args:= #[.tmp tA,.tmp tk],argTypes:=ts},tyR,none⟩=true:=by
  simp only[okL,A7,Ab]at hL
  exact hL.2.2.1
 have d3':=ce (cns:=cns) (ops:=ops) k3 (by rw[q3];exact hL3) b3 rfl a3
 have d3:tR < nt∧tR∉bx:=⟨d3'.1,d3'.2.2 hcR⟩
 have hL4:okA bx cns ⟨some tK,.assign (.tmp tR),tyK,none⟩=true:=by
  simp only[okL,A7,Ab]at hL
  exact hL.2.2.2.1
 have d4:=kT (cns:=cns) (ops:=ops) k4 (by rw[q4];exact hL4) (.inl ⟨_,b4⟩) a4
 intro base St0 w0 a w hr
 refine wp_region_list ?_
 rw[e1]
 obtain⟨St,B,hS,hbl,hst,hz⟩:=hr
 obtain⟨v,bs,r1,ow,nd,sub,back⟩:=hsrc base St B a w o1 hS b1
 have hkv:tm a tK=.int .i64 k:=by have:=hS.slot tK;rw[hk]at this;exact FA this
 have hK:tK∉bx:=d4.2.2 hcn
 have z0:a.tmps.size=nt:=hS.size
 have t1:=VB a tA v (by rw[z0];exact d1.1)
 have z1:(a.put (some tA) v).tmps.size=nt:=by rw[size_put];exact z0
 have t2:=VB (a.put (some tA) v) tk (.int .i64 k) (by rw[z1];exact d2.1)
 have z2:((a.put (some tA) v).put (some tk) (.int .i64 k)).tmps.size=nt:=by rw[size_put];exact z1
 have t3:=VB ((a.put (some tA) v).put (some tk) (.int .i64 k)) tR (.int .i64 k') (by rw[z2];exact d3.1)
 have ev:∀(a:Act) (t:Nat),a.eval (.tmp t)=tm a t:=λ_ _=>rfl
 refine PN g1 (Hu r1 ?_)
 rw[a1]
 have r2:(execOp (a.put (some tA) v).eval o2).run P w=.ok (.value (.int .i64 k)) w:=by
  simp[execOp,b2,ev,t1,upd_ne _ _ hne.1,hkv]
 refine PN g2 (Hu r2 ?_)
 rw[a2]
 have eA:((a.put (some tA) v).put (some tk) (.int .i64 k)).eval (.tmp tA)=v:=by rw[ev,t2,upd_ne _ _ hne.2,t1,upd_same]
 have ek:((a.put (some tA) v).put (some tk) (.int .i64 k)).eval (.tmp tk)=.int .i64 k:=by rw[ev,t2,upd_same]
 obtain⟨⟨fn,hf,hbody,hname⟩,hcall⟩:=hm
 have r3:(execOp ((a.put (some tA) v).put (some tk) (.int .i64 k)).eval o3).run P w=.ok (.enter f #[v,.int .i64 k]) w:=by
  have e2:((a.put (some tA) v).put (some tk) (.int .i64 k)).eval (.func f)=.func (.func f) #[] #[]:=rfl
  simp only[execOp,b3,resolve,e2,Deferred.ofValue,AH,Bb,Az,invoke,callFunc,IJ,HV,Gd,hf,hbody,hname]
  simp[eA,ek]
 refine PN g3 ?_
 unfold Oper.wp
 rw[r3,DB]
 have hlt:∀g∈bs,g < w.heap.size:=λg hg=>(hS.range s g (sub g hg)).2
 have hG:SI w bs:=λp hp=>⟨λo=>⟨hS.st _ _ ((hS.gl p hp).1 o),λhm=>(Ow.Oq c hd ow p.1 hm).elim λo' ho=>ho ((hS.gl p hp).1 o')⟩,(hS.gl p hp).2⟩
 refine(hcall w St v bs ow nd hlt hG).mono ?_
 rintro e w' ⟨rfl,ow',fr⟩
 show wpList P ops _ [o4] (((a.put (some tA) v).put (some tk) (.int .i64 k)).put o3.dst (.int .i64 k')) w'
 rw[a3]
 have r4:(execOp (((a.put (some tA) v).put (some tk) (.int .i64 k)).put (some tR) (.int .i64 k')).eval o4).run P w'=.ok (.value (.int .i64 k')) w':=by
  simp[execOp,b4,ev,t3,upd_same]
 refine PN g4 (Hu r4 ?_)
 rw[a4]
 have h2:=gH hS sub fr (Ow.Oq c hd ow) hsafe (back w' ow' fr) hb hrf
 have h3:=h2.put (d:=tA) d1.1 d1.2 (c:=.undef) (v:=v) (bs:=[]) rfl Ax (by simp) rfl (by intro b e;cases e)
 have h4:=h3.put (d:=tk) d2.1 d2.2 (c:=.undef) (v:=.int .i64 k) (bs:=[]) rfl Ax (by simp) rfl (by intro b e;cases e)
 have h5:=h4.put (d:=tR) d3.1 d3.2 (c:=.undef) (v:=.int .i64 k') (bs:=[]) rfl Ax (by simp) rfl (by intro b e;cases e)
 have h6:=h5.put (d:=tK) d4.1 hK (c:=.int .i64 k') (v:=.int .i64 k') (bs:=[]) ⟨rfl,rfl⟩ Ax (by simp) rfl (by intro b e;cases e)
 exact⟨_,h,St,_,h6,hbl.trans (fr.toBelow (λg hg=>(hS.range s g (sub g hg)).1) hz),hst,O0 hz fr.size⟩
end
end Go.Proofs.YtckmdkajoiegmaaGreatDoor
namespace Go.Proofs.YtckmdkajoiegmaaGreatDoor
abbrev TS:=Nat->Option Value
def Has(T:TS)(nt:Nat)(a:Act):Prop:=a.tmps.size=nt∧a.defers=[]∧∀s u,T s=some u->tm a s=u
section
variable {P:Program}{nt:Nat}{bx:List Nat}{T:TS}{a:Act}{w w':World}{K:TS->World->Prop}{os:List LO}{tb:Tb}
theorem Z4{d:Nat}{u:Value}(h:Has T nt a)(hd:d < nt):Has (upd T d (some u)) nt (a.put (some d) u):=by
 refine⟨by rw[size_put];exact h.1,by rw[QB];exact h.2.1,λs x hx=>?_⟩
 rw[VB a d u (by rw[h.1];exact hd)]
 by_cases e:s=d
 ·subst e;rw[upd_same]at hx⊢;injection hx
 ·rw[upd_ne _ _ e]at hx⊢;exact h.2.2 s x hx
theorem JJ{s:Nat}{u:Value}(h:Has T nt a)(hs:T s=some u):a.eval (.tmp s)=u:=h.2.2 s u hs
def MO(P:Program)(nt:Nat)(bx:List Nat)(os:List LO)(T:TS)(w:World)(K:TS->World->Prop):Prop:=
 ∀(ops:Array Oper) (l:List Oper),l.map (Cx ops)=os->l.all (QN nt bx)=true->∀(R:Exit->Act->World->Prop),(∀T' a' w',K T' w'->Has T' nt a'->R .normal a' w')->∀a,Has T nt a->wpList P ops R l a w
theorem FSQ(h:K T w):MO P nt bx [] T w K:=by
 intro ops l hl hok R hR a ha
 rw[List.map_eq_nil_iff.1 hl]
 exact hR T a w h ha
theorem am{o:Oper}{d:Nat}(h:QN nt bx o=true)(hd:o.dst=some d):d < nt:=by
 replace h:=XK h
 unfold XJ at h
 rw[hd]at h
 simp only[Ab,AB]at h
 exact h.1
theorem P4{d:Nat}{op:Op}{ty:TypeId}{u:Value}(hr:∀(a:Act) (o:Oper),Has T nt a->o.op=op->(execOp a.eval o).run P w=.ok (.value u) w)(h:MO P nt bx os (upd T d (some u)) w K):MO P nt bx (⟨some d,op,ty,none⟩::os) T w K:=by
 intro ops l hl hok R hR a ha
 obtain⟨o,l',rfl,q,hl⟩:=DC.1 hl
 obtain⟨a1,b1,g1⟩:=PD q
 simp only[A7,Ab]at hok
 refine PN g1 (Hu (hr a o ha b1) ?_)
 rw[a1]
 exact h ops l' hl hok.2 R hR _ (Z4 ha (am hok.1 a1))
theorem tS{d:Nat}{op:Op}{ty:TypeId}{u:Value}(hr:∀(a:Act) (o:Oper),Has T nt a->o.op=op->(execOp a.eval o).run P w=.ok (.value u) w')(h:MO P nt bx os (upd T d (some u)) w' K):MO P nt bx (⟨some d,op,ty,none⟩::os) T w K:=by
 intro ops l hl hok R hR a ha
 obtain⟨o,l',rfl,q,hl⟩:=DC.1 hl
 obtain⟨a1,b1,g1⟩:=PD q
 simp only[A7,Ab]at hok
 refine PN g1 (Hu (hr a o ha b1) ?_)
 rw[a1]
 exact h ops l' hl hok.2 R hR _ (Z4 ha (am hok.1 a1))
theorem Ec{d s:Nat}{ty:TypeId}{u:Value}(hs:T s=some u)(h:MO P nt bx os (upd T d (some u)) w K):MO P nt bx (⟨some d,.move (.tmp s),ty,none⟩::os) T w K:=
 P4 (λa o ha ho=>by simp[execOp,ho,JJ ha hs]) h
theorem JK{d s:Nat}{ty:TypeId}{u:Value}(hs:T s=some u)(h:MO P nt bx os (upd T d (some u)) w K):MO P nt bx (⟨some d,.assign (.tmp s),ty,none⟩::os) T w K:=
 P4 (λa o ha ho=>by simp[execOp,ho,JJ ha hs]) h
theorem bC(a:Act)(u:Value):a.eval (.const u)=u:=rfl
theorem Sy{d:Nat}{ty:TypeId}{u:Value}(h:MO P nt bx os (upd T d (some u)) w K):MO P nt bx (⟨some d,.assign (.const u),ty,none⟩::os) T w K:=
 P4 (λa o ha ho=>by simp[execOp,ho,bC]) h
theorem tQ(htb:GA P tb){d s:Nat}{t ty e:TypeId}{es eb n c:Nat}{ez:List V}{A:Option Addr}(ht:tb t=some (.sl e es eb ez))(hs:T s=some (.slice A n c))(h:MO P nt bx os (upd T d (some (.int .i64 n))) w K):
  MO P nt bx (⟨some d,.call {callee:=.builtin .len,args:= #[.tmp s],argTypes:= #[t]},ty,none⟩::os) T w K:=by
 obtain⟨i',j,zv,_,_,_,hu,hj,_⟩:=htb _ _ ht
 refine P4 (λa o ha ho=>?_) h
 have e1:=JJ ha hs
 have hr:(Builtin.len_ #[t] o.type #[.slice A n c]).run P w=.ok (.int .i64 n) w:=by simp[Builtin.len_,A8 hu,goInt]
 simp only[execOp,ho,resolve,invoke,builtin,AH,Bb,Az,FU,AK,DR,e1,hr]
theorem xD{d x y:Nat}{t t2 ty:TypeId}{m n:Int}(hx:T x=some (.int .i64 m))(hy:T y=some (.int .i64 n))(h:MO P nt bx os (upd T d (some (.bool (decide (m < n))))) w K):MO P nt bx (⟨some d,.binOp .lss t (.tmp x) (.tmp y) t2,ty,none⟩::os) T w K:=by
 refine P4 (λa o ha ho=>?_) h
 have e1:=JJ ha hx
 have e2:=JJ ha hy
 have hr:(do eqGuard .lss t (.tmp x) (.tmp y) (.int .i64 m) (.int .i64 n);binOp .lss t (.int .i64 m) (.int .i64 n):Sem Value).run P w=.ok (.bool (decide (m < n))) w:=by
  simp only[eqGuard,binOp,Op.intCmp,ne_eq,GJ,C8,AH];rfl
 simp only[AH]at hr
 simp only[execOp,ho,e1,e2,AH,hr,Az,Bb]
theorem dB{d x:Nat}{t t2 ty:TypeId}{m:Int}(hx:T x=some (.int .i64 m))(h0:0<=m)(h1:m < 9223372036854775807)(h:MO P nt bx os (upd T d (some (.int .i64 (m+1)))) w K):MO P nt bx (⟨some d,.binOp .add t (.tmp x) (.const (.int .i64 1)) t2,ty,none⟩::os) T w K:=by
 refine P4 (λa o ha ho=>?_) h
 have e1:=JJ ha hx
 have e2:=bC a (.int .i64 1)
 have hw:IntKind.i64.wrap (m+1)=m+1:=by
  unfold IntKind.wrap
  simp[IntKind.signed,IntKind.bits]<;>omega
 have hr:(do eqGuard .add t (.tmp x) (.const (.int .i64 1)) (.int .i64 m) (.int .i64 1);binOp .add t (.int .i64 m) (.int .i64 1):Sem Value).run P w=.ok (.int .i64 (IntKind.i64.wrap (m+1))) w:=by
  simp only[eqGuard,binOp,Op.intArith,ne_eq,GJ,C8,AH];rfl
 rw[hw]at hr
 simp only[AH]at hr
 simp only[execOp,ho,e1,e2,AH,hr,Az,Bb]
theorem fq(htb:GA P tb){d x y:Nat}{t ty e:TypeId}{es eb n c g j:Nat}{ez:List V}(ht:tb t=some (.sl e es eb ez))(hx:T x=some (.slice (some ⟨g,0,none⟩) n c))(hy:T y=some (.int .i64 j))(hj:j < n)
  (h:MO P nt bx os (upd T d (some (.pointer (some ⟨g,j * es,none⟩)))) w K):MO P nt bx (⟨some d,.indexAddr t (.tmp x) (.tmp y),ty,none⟩::os) T w K:=by
 obtain⟨i,jj,zv,_,_,_,hu,hjj,_,hes,_⟩:=htb _ _ ht
 refine P4 (λa o ha ho=>?_) h
 have e1:=JJ ha hx
 have e2:=JJ ha hy
 have hc:(0:Int)<=j∧(j:Int) < n:=by omega
 have hr:(Instr.indexAt t (.slice (some ⟨g,0,none⟩) n c) (.int .i64 j)).run P w=.ok (.pointer (some ⟨g,j * es,none⟩)) w:=by
  simp[Instr.indexAt,asIntOf,A8 hu,hc,Go.sizeOf,typeInfo,hjj,hes,add_plain]
  omega
 simp only[execOp,ho,e1,e2,AH,hr,Az,Bb]
theorem S3(htb:GA P tb){d x f:Nat}{t ty:TypeId}{n off sz g p:Nat}{z:List V}{fs:List (Nat×Nat)}(ht:tb t=some (.st n z fs))(hf:fs[f]? =some (off,sz))(hx:T x=some (.pointer (some ⟨g,p,none⟩)))
  (h:MO P nt bx os (upd T d (some (.pointer (some ⟨g,p+off,none⟩)))) w K):MO P nt bx (⟨some d,.fieldAddr t (.tmp x) f,ty,none⟩::os) T w K:=by
 obtain⟨i,arr,gs,_,_,_,_,hu,hfs,hpos,_⟩:=htb _ _ ht
 have hg:∃fd,gs[f]? =some fd∧fd.offset=off∧PR P fd.type=sz:=by
  rw[<-hfs,BB]at hf
  obtain⟨fd,h1,h2⟩:=BF.1 hf
  injection h2 with h2 h3
  exact⟨fd,by simpa using h1,h2,h3⟩
 obtain⟨fd,hfd,rfl,hsz⟩:=hg
 have hp:0 < PR P fd.type:=by rw[hsz];exact hpos _ (Bu hf)
 obtain⟨j,hj,hj0⟩:∃j,P.info? fd.type=some j∧j.size≠0:=by
  unfold PR at hp
  cases hi:P.info? fd.type with
  |none=>rw[hi]at hp;simp at hp
  |some j=>rw[hi]at hp;exact⟨j,rfl,by simp at hp;omega⟩
 refine P4 (λa o ha ho=>?_) h
 have e1:=JJ ha hx
 have hr:(Instr.fieldAt t (.pointer (some ⟨g,p,none⟩)) f).run P w=.ok (.pointer (some ⟨g,p+fd.offset,none⟩)) w:=by
  simp[Instr.fieldAt,A8 hu,hfd,Instr.sureAddr,fieldPlace,Go.sizeOf,typeInfo,hj,hj0,add_plain]
 simp only[execOp,ho,e1,AH,hr,Az,Bb]
theorem PE(htb:GA P tb){d x:Nat}{t ty:TypeId}{dd:TyD}{g p:Nat}{u:Value}(ht:tb t=some dd)(hag:dd.SK=false)(hx:T x=some (.pointer (some ⟨g,p,none⟩)))(hc:w.cell? ⟨g,p,none⟩=some u)
  (h:MO P nt bx os (upd T d (some u)) w K):MO P nt bx (⟨some d,.load t (.tmp x),ty,none⟩::os) T w K:=by
 have hagr:=htb _ _ ht
 refine P4 (λa o ha ho=>?_) h
 have e1:=JJ ha hx
 simp[execOp,ho,e1,Instr.loadAt,Instr.sureAddr,loadVar,hagr.isAgg,hag,hc]
theorem b8(htb:GA P tb){d x:Nat}{t ty:TypeId}{n:Nat}{z:List V}{fs:List (Nat×Nat)}{g p:Nat}{us:List Value}(ht:tb t=some (.st n z fs))(hn:us.length=n)(hx:T x=some (.pointer (some ⟨g,p,none⟩)))(hc:∀(j:Nat) (u:Value),us[j]? =some u->w.cell? ⟨g,p+j,none⟩=some u)
  (h:MO P nt bx os (upd T d (some (.agg us.toArray))) w K):MO P nt bx (⟨some d,.load t (.tmp x),ty,none⟩::os) T w K:=by
 have hagr:=htb _ _ ht
 refine P4 (λa o ha ho=>?_) h
 have e1:=JJ ha hx
 have hr:=Ep (P:=P) (w:=w) ⟨g,p,none⟩ us (λj v hv=>by rw[add_plain];exact hc j v hv)
 rw[hn]at hr
 simp[execOp,ho,e1,Instr.loadAt,Instr.sureAddr,loadVar,hagr.isAgg,hagr.sizeOf,TyD.SK,TyD.size,hr]
theorem b9(htb:GA P tb){x y:Nat}{t ty:TypeId}{z:V}{g p:Nat}{u v:Value}(ht:tb t=some (.sc z))(hx:T x=some (.pointer (some ⟨g,p,none⟩)))(hy:T y=some v)(hv:v.cells= #[v])(hc:w.cell? ⟨g,p,none⟩=some u)(hf:w.frozen? ⟨g,p,none⟩=false)(h1:v.oneCell'=true)
  (h:MO P nt bx os T (w.setCell ⟨g,p,none⟩ v) K):MO P nt bx (⟨none,.store t (.tmp x) (.tmp y),ty,none⟩::os) T w K:=by
 have hagr:=htb _ _ ht
 intro ops l hl hok R hR a ha
 obtain⟨o,l',rfl,q,hl⟩:=DC.1 hl
 obtain⟨a1,b1,g1⟩:=PD q
 simp only[A7,Ab]at hok
 have e1:=JJ ha hx
 have e2:=JJ ha hy
 have hr:(execOp a.eval o).run P w=.ok .skip (w.setCell ⟨g,p,none⟩ v):=by
  have hst:(store ⟨g,p,none⟩ v).run P w=.ok () (w.setCell ⟨g,p,none⟩ v):=by rw[run_store P w _ _ _ h1];simp[hc,hf]
  simp[execOp,b1,e1,e2,Instr.storeAt,Instr.sureAddr,storeVar,hagr.sizeOf,TyD.size,hv,storeCells,add_plain,hst]
 refine PN g1 (dU hr ?_)
 rw[a1]
 exact h ops l' hl hok.2 R hR _ ⟨by rw[size_put];exact ha.1,by rw[QB];exact ha.2.1,ha.2.2⟩
theorem MI{d:Nat}{ty:TypeId}{f:FuncId}{args:Array Operand}{ts:Array TypeId}{vs:Array Value}(hb:JM P f)(hargs:∀a,Has T nt a->args.map a.eval=vs)(hc:Calls P f vs w (λe w'=>∃u,e=.returned u∧MO P nt bx os (upd T d (some u)) w' K)):
  MO P nt bx (⟨some d,.call {callee:=.value (.func f),args:=args,argTypes:=ts},ty,none⟩::os) T w K:=by
 intro ops l hl hok R hR a ha
 obtain⟨o,l',rfl,q,hl⟩:=DC.1 hl
 obtain⟨a1,b1,g1⟩:=PD q
 simp only[A7,Ab]at hok
 obtain⟨fn,hf,hbody,hname⟩:=hb
 have hr:(execOp a.eval o).run P w=.ok (.enter f vs) w:=by
  have e1:=hargs a ha
  have e2:a.eval (.func f)=.func (.func f) #[] #[]:=rfl
  simp only[execOp,b1,resolve,e2,Deferred.ofValue,AH,Bb,Az,invoke,callFunc,IJ,HV,Gd,hf,hbody,hname]
  simp[e1]
 refine PN g1 ?_
 unfold Oper.wp
 rw[hr,DB]
 refine hc.mono ?_
 rintro e w1 ⟨u,rfl,h⟩
 show wpList P ops R l' (a.put o.dst u) w1
 rw[a1]
 exact h ops l' hl hok.2 R hR _ (Z4 ha (am hok.1 a1))
theorem ah{d x:Nat}{t ty:TypeId}{us:Array Value}(hx:T x=some (.agg us))(h:MO P nt bx os (upd T d (some (.pointer (some ⟨w.heap.size,0,none⟩)))) (w.alloc (.cells us t)) K):MO P nt bx (⟨some d,.box t (.tmp x),ty,none⟩::os) T w K:=by
 refine tS (λa o ha ho=>?_) h
 have e1:=JJ ha hx
 simp[execOp,ho,e1,Instr.box,newVar,newRow,Value.cells]
def MS(P:Program)(nt:Nat)(bx:List Nat)(l:LC)(T:TS)(w:World)(Q:Exit->TS->World->Prop):Prop:=∀c,E2 c=PU l->okC nt bx c=true->∀a,Has T nt a->c.wp P (λe a' w'=>∃T',Q e T' w'∧Has T' nt a') a w
def mf(N:TS->World->Prop)(Q:Exit->TS->World->Prop):Exit->TS->World->Prop
 |.normal,T,w=>N T w
 |e,T,w=>Q e T w
def cZ(id:Nat)(Q:Exit->TS->World->Prop):Exit->TS->World->Prop
 |.exit i,T,w=>if i=id then Q .normal T w else Q (.exit i) T w
 |e,T,w=>Q e T w
variable {Q:Exit->TS->World->Prop}{x y:LC}
theorem nP{Q':Exit->TS->World->Prop}(h:MS P nt bx x T w Q)(hq:∀e T w,Q e T w->Q' e T w):MS P nt bx x T w Q':=
 λc hc hok a ha=>Ek (h c hc hok a ha) (λe a w ⟨T',h1,h2⟩=>⟨T',hq e T' w h1,h2⟩)
theorem FT{cns:List Nat}(h:MO P nt bx os T w (Q .normal)):MS P nt bx (.rgn cns os) T w Q:=by
 intro c hc hok a ha
 cases c<;>first|cases hc|skip
 rename_i id ops' d
 simp only[E2,PU]at hc
 split at hc
 ·cases hc
 ·rename_i hd
  simp only[LC.rgn.injEq,KB]at hc
  have:d=false:=by simpa using hd
  subst this
  exact wp_region_list (h ops' ops'.toList hc hok _ (λT' a' w' h1 h2=>⟨T',h1,h2⟩) a ha)
theorem Gc(h:MS P nt bx x T w (mf (λT' w'=>MS P nt bx y T' w' Q) Q)):MS P nt bx (.seq x y) T w Q:=by
 intro c hc hok a ha
 cases c<;>first|cases hc|skip
 ·simp only[E2,PU]at hc;split at hc<;>cases hc
 ·rename_i c1 c2
  simp only[E2,PU,LC.seq.injEq]at hc
  simp only[okC,Ab]at hok
  refine wp_seq (Ek (h c1 hc.1 hok.1 a ha) ?_)
  rintro(_|id|l|_|c|_) a' w' ⟨T',h1,h2⟩
  ·exact h1 c2 hc.2 hok.2 a' h2
  all_goals exact⟨T',h1,h2⟩
theorem nQ(h:Q .normal T w):MS P nt bx .skip T w Q:=by
 intro c hc hok a ha
 cases c<;>first|cases hc|skip
 ·exact wp_skip ⟨T,h,ha⟩
 ·simp only[E2,PU]at hc;split at hc<;>cases hc
theorem nN{id:Nat}(h:Q (.exit id) T w):MS P nt bx (.exit id) T w Q:=by
 intro c hc hok a ha
 cases c<;>first|(cases hc;done)|skip
 ·simp only[E2,PU]at hc;split at hc<;>cases hc
 ·simp only[E2,PU,LC.exit.injEq]at hc;subst hc;exact wp_exit ⟨T,h,ha⟩
theorem XF(h:Q .ret T w):MS P nt bx .ret T w Q:=by
 intro c hc hok a ha
 cases c<;>first|(cases hc;done)|skip
 ·simp only[E2,PU]at hc;split at hc<;>cases hc
 ·exact wp_ret ⟨T,h,ha⟩
theorem kE{id:Nat}(h:MS P nt bx x T w (cZ id Q)):MS P nt bx (.blk id x) T w Q:=by
 intro c hc hok a ha
 cases c<;>first|(cases hc;done)|skip
 ·simp only[E2,PU]at hc;split at hc<;>cases hc
 ·simp only[E2,PU,LC.blk.injEq]at hc
  obtain⟨rfl,hc⟩:=hc
  refine wp_block (Ek (h _ hc hok a ha) ?_)
  rintro(_|i|l|_|c|_) a' w' ⟨T',h1,h2⟩
  ·exact⟨T',h1,h2⟩
  ·simp only[cZ]at h1
   simp only[Exit.inBlock]
   split
   ·rename_i e;rw[AJ e]at h1;exact⟨T',h1,h2⟩
   ·rename_i e;rw[AN e]at h1;exact⟨T',h1,h2⟩
  all_goals exact⟨T',h1,h2⟩
theorem nM{t:Nat}{b:Bool}(hb:T t=some (.bool b))(h1:b=true->MS P nt bx x T w Q)(h2:b=false->MS P nt bx y T w Q):MS P nt bx (.cond (.tmp t) x y) T w Q:=by
 intro c hc hok a ha
 cases c<;>first|(cases hc;done)|skip
 ·simp only[E2,PU]at hc;split at hc<;>cases hc
 ·simp only[E2,PU,LC.cond.injEq]at hc
  obtain⟨rfl,q1,q2⟩:=hc
  simp only[okC,Ab]at hok
  exact wp_cond_split (JJ ha hb) (λe=>h1 e _ q1 hok.1 a ha) (λe=>h2 e _ q2 hok.2 a ha)
theorem nO{D:List Nat}(I:Nat->TS->World->Prop)(m0:Nat)(h0:I m0 T w)(round:∀m T w,I m T w->MS P nt bx x T w (mf (λT' w'=>∃m',m' < m∧I m' T' w') Q)):MS P nt bx (.loop D x) T w Q:=by
 intro c hc hok a ha
 cases c<;>first|(cases hc;done)|skip
 ·simp only[E2,PU]at hc;split at hc<;>cases hc
 ·rename_i c
  simp only[E2,PU,LC.loop.injEq,KB]at hc
  intro b k cs
  have key:∀n T a w,I n T w->Has T nt a->
    ∃e a' w',(∃T',Q e T' w'∧Has T' nt a')∧Arrives P (lone (b.at a (.code c::.inLoop c::k)) cs w) b k cs e a' w':=by
   intro n
   induction n using Nat.strongRecOn with
   |_ n ih=>
    intro T a w hI ha
    obtain⟨e,a₁,w₁,⟨T₁,hq,hr₁⟩,harr⟩:=round n T w hI c hc hok a ha b (.inLoop c::k) cs
    cases e with
    |normal=>
     obtain⟨m',hlt,hI₁⟩:=hq
     obtain⟨e₂,a₂,w₂,hq₂,harr₂⟩:=ih m' hlt T₁ a₁ w₁ hI₁ hr₁
     exact⟨e₂,a₂,w₂,hq₂,.of_steps (Steps.trans harr (.one step_inLoop)) harr₂⟩
    |exit id=>exact⟨_,a₁,w₁,⟨T₁,hq,hr₁⟩,.pass (x:=.inLoop c) rfl (λ_ _=>.inl (by simp)) harr⟩
    |goto l=>exact⟨_,a₁,w₁,⟨T₁,hq,hr₁⟩,.pass (x:=.inLoop c) rfl (λ_ _=>.inl (by simp)) harr⟩
    |ret=>exact⟨_,a₁,w₁,⟨T₁,hq,hr₁⟩,.pass (x:=.inLoop c) rfl (λ_ _=>.inl (by simp)) harr⟩
    |panic ch=>exact⟨_,a₁,w₁,⟨T₁,hq,hr₁⟩,.pass (x:=.inLoop c) rfl (λ_ _=>.inl (by simp)) harr⟩
    |outgrown=>exact⟨_,a₁,w₁,⟨T₁,hq,hr₁⟩,.pass (x:=.inLoop c) rfl (λ_ _=>.inl (by simp)) harr⟩
  obtain⟨e,a',w',hq,harr⟩:=key m0 T a w h0 ha
  exact⟨e,a',w',hq,.of_steps (.one step_loop) harr⟩
def tN(ty it bt:TypeId)(body:LC)(r:Nat):LC:=
 .seq (.rgn [] [⟨some 4,.assign (.const (.int .i64 0)),it,none⟩])
 (.seq (.seq (.rgn [] [⟨some 5,.assign (.const (.int .i64 0)),it,none⟩])
  (.blk 0 (.loop [] (.seq (.seq (.rgn [] [⟨some 6,.move (.tmp 5),it,none⟩,⟨some 7,.move (.tmp 0),ty,none⟩,⟨some 8,.call {callee:=.builtin .len,args:= #[.tmp 7],argTypes:= #[ty]},it,none⟩,⟨some 9,.binOp .lss it (.tmp 6) (.tmp 8) it,bt,none⟩]) (.cond (.tmp 9) .skip (.exit 0)))
   (.seq (.blk 1 body) (.rgn [] [⟨some 10,.move (.tmp 5),it,none⟩,⟨some 11,.binOp .add it (.tmp 10) (.const (.int .i64 1)) it,it,none⟩,⟨some 5,.assign (.tmp 11),it,none⟩]))))))
 (.seq (.rgn [] [⟨some r,.move (.tmp 1),it,none⟩,⟨some 4,.assign (.tmp r),it,none⟩]) .ret))
def pI(vs:List Value):TS:=λs=>vs[s]?
theorem Rv{f:FuncId}{rs:List ResultVar}{l:LC}{t:Nat}(hl:Lit P f nt bx [.tmp t] l){vs:List Value}(hn:vs.length<=nt){R:Ending->World->Prop}(h:MS P nt bx l (pI vs) w (λe T' w'=>(e=.ret∨e=.normal)∧∃u,T' t=some u∧R (.returned u) w')):Calls P f vs.toArray w R:=by
 obtain⟨⟨fn,c,h1,h2,h3,rfl,h5,h6,h7⟩,_,_⟩:=hl
 refine G8 h1 h2 ?_
 have htm:∀s,tm {tmps:=vs.toArray++Array.replicate (fn.ntmps - vs.toArray.size) undef,defers:=[]} s=(vs[s]?).getD undef:=by
  intro s
  unfold tm
  rw[Cv,IH]
  split
  ·simp
  ·rename_i hlt
   rw[GI]at hlt
   rw[AU (by omega)]
   rw[Dq]
   split<;>rfl
 refine Ek (h c h6 h7 _ ⟨by simp;omega,rfl,λs u hu=>?_⟩) ?_
 ·rw[htm];unfold pI at hu;rw[hu];rfl
 ·rintro e a' w' ⟨T',⟨he,u,hu,hR⟩,ha⟩
  have hres:(results fn a'.tmps).run P w'=.ok u w':=by
   have e1:fn.results= #[.tmp t]:=by rw[<-Di (xs:=fn.results),h5]
   have e2:a'.tmps[t]?.getD undef=u:=by rw[<-Cv];exact ha.2.2 t u hu
   unfold results
   rw[e1]
   simp[e2]
  rcases he with rfl|rfl
  ·exact⟨ha.2.1,u,hres,hR⟩
  ·exact⟨ha.2.1,u,hres,hR⟩
variable {St:Nat->Nat->Prop}{mt:Int->List UInt8}
def Round(P:Program)(nt:Nat)(bx:List Nat)(mt:Int->List UInt8)(e:TypeId)(es:Nat)(body:LC)(n:Nat)(cs:List V)(k:Int):Prop:=
 ∀(St:Nat->Nat->Prop) (w0:World) (bs:List Nat) (g cap j:Nat) (w:World) (T:TS),bs.Nodup->(∀g∈bs,g < w0.heap.size)->j < n->Inv P St mt e n cs k (.slice (some ⟨g,0,none⟩) n cap) bs w0 (j * es) w->T 0=some (.slice (some ⟨g,0,none⟩) n cap)->T 1=some (.int .i64 (k+GB cs (j * es)))->T 5=some (.int .i64 j)->
  MS P nt bx body T w (λe' T' w'=>e'=.normal∧T' 0=some (.slice (some ⟨g,0,none⟩) n cap)∧T' 1=some (.int .i64 (k+GB cs (j * es+es)))∧T' 5=some (.int .i64 j)∧Inv P St mt e n cs k (.slice (some ⟨g,0,none⟩) n cap) bs w0 (j * es+es) w')
theorem Tt(htb:GA P tb){f:FuncId}{ty it bt e:TypeId}{es eb r:Nat}{ez:List V}{body:LC}(hl:Lit P f nt bx [.tmp 4] (tN ty it bt body r))(hnt:2<=nt)(ht:tb ty=some (.sl e es eb ez)){n:Nat}{cs:List V}{k:Int}(hcs:cs.length=n * es)(hr4:r≠4)
  (hbody:Round P nt bx mt e es body n cs k):Kh P f (.own e n cs) k (.own e n (Jb mt cs k)) (k+D7 cs):=by
 obtain⟨⟨fn,c,h1,h2,h3,h4,h5,h6,h7⟩,h8,h9⟩:=hl
 refine⟨⟨fn,h1,by rw[h2];rfl,h3⟩,λw0 St v bs hO hnd hbs hG=>?_⟩
 have hnl:n<=lim:=hO.1
 obtain⟨A,cap,hv⟩:∃A cap,v=.slice A n cap:=by
  obtain⟨_,xs,bs',hx,_⟩:=hO
  rcases hx.2 with⟨h1,h0⟩|⟨g,cap,cur,h1,_⟩
  ·exact⟨none,0,by rw[h1,h0]⟩
  ·exact⟨_,_,h1⟩
 have hA:0 < n->∃g,A=some ⟨g,0,none⟩:=by
  intro hp
  obtain⟨_,xs,bs',hx,_⟩:=hO
  rcases hx.2 with⟨h1,h0⟩|⟨g,cap,cur,h1,_⟩
  ·omega
  ·rw[hv]at h1;injection h1 with h1;exact⟨g,h1⟩
 refine Rv (rs:=[]) (vs:=[v,.int .i64 k]) ⟨⟨fn,c,h1,h2,h3,h4,h5,h6,h7⟩,h8,h9⟩ hnt ?_
 subst hv
 refine Gc (FT (Sy (FSQ ?_)))
 refine Gc (Gc (FT (Sy (FSQ ?_))))
 refine kE (nO (λm T w=>∃j,j<=n∧m=n - j∧T 0=some (.slice A n cap)∧T 1=some (.int .i64 (k+GB cs (j * es)))∧T 5=some (.int .i64 j)∧Inv P St mt e n cs k (.slice A n cap) bs w0 (j * es) w) n ⟨0,by omega,by omega,rfl,?_,rfl,by rw[Nat.zero_mul];exact Inv.start hO hG⟩ ?_)
 ·rw[Nat.zero_mul,gw];simp;rfl
 rintro m T w ⟨j,hj,rfl,t0,t1,t5,hI⟩
 refine Gc (Gc (FT (Ec t5 (Ec t0 (tQ htb ht rfl (xD rfl rfl (FSQ ?_)))))))
 refine nM (b:=decide ((j:Int) < (n:Int))) rfl (λhd=>?_) (λhd=>?_)
 ·have hjn:j < n:=by simp at hd;omega
  obtain⟨g,rfl⟩:=hA (by omega)
  refine nQ ?_
  refine Gc (kE (nP (hbody St w0 bs g cap j w _ hnd hbs hjn hI t0 t1 t5) ?_))
  rintro e' T' w' ⟨rfl,t0',t1',t5',hI'⟩
  refine FT (Ec t5' (dB rfl (by omega) (by unfold lim at hnl;omega) (JK rfl (FSQ ?_))))
  refine⟨n - (j+1),by omega,j+1,by omega,rfl,t0',?_,?_,?_⟩
  ·rw[E3];exact t1'
  ·exact congrArg some (congrArg (Value.int .i64) (by simp))
  ·rw[E3];exact hI'
 ·have hjn:j=n:=by simp at hd;omega
  subst hjn
  refine nN ?_
  simp only[mf,cZ,Er]
  refine Gc (FT (Ec t1 (JK (upd_same _ _ _) (FSQ ?_))))
  refine XF ?_
  refine⟨.inl rfl,_,rfl,?_,hI.done (by rw[hcs];exact A9 _)⟩
  rw[jd cs _ (by rw[hcs];exact A9 _)]
end
end Go.Proofs.YtckmdkajoiegmaaGreatDoor
namespace Go.Proofs.YtckmdkajoiegmaaGreatDoor
section
variable {P:Program}{St:Nat->Nat->Prop}{mt:Int->List UInt8}{e:TypeId}{n:Nat}{cs:List V}{k:Int}{bs:List Nat}{w0 w:World}{p g cap:Nat}
theorem Wt{α:Type}{f:α->List V}{es:Nat}(hf:∀x,(f x).length=es){l:List α}{j:Nat}(hj:j < l.length){m:Nat}(hm:m < es):(l.flatMap f)[j * es+m]? =(f l[j])[m]?:=by
 have h:=(df hf (Ae hj) m).resolve_right (by omega)
 have e1:(l.flatMap f)[j * es+m]? =((l.flatMap f).drop (j * es+m))[0]?:=by rw[Dm,CP]
 have e2:(f l[j])[m]? =((f l[j]).drop m)[0]?:=by rw[Dm,CP]
 rw[e1,e2,h,BA (by rw[BO,hf];omega)]
theorem L8{α:Type}{f:α->List V}(h:∀x,Ca (f x)=true):∀l:List α,Ca (l.flatMap f)=true
 |[]=>rfl
 |x::l=>by rw[Ay,M7,h x,L8 h l];rfl
theorem dR{g g' n cap cap':Nat}(h:Value.slice (some ⟨g,0,none⟩) n cap=.slice (some ⟨g',0,none⟩) n cap'):g'=g:=by
 injection h with h1;injection h1 with h1;injection h1 with h1;exact h1.symm
theorem Inv.int'{kd:IntKind}{x:Int}(h:Inv P St mt e n cs k (.slice (some ⟨g,0,none⟩) n cap) bs w0 p w)(hd:Ca cs=true)(hn:bs.Nodup)(hp:cs[p]? =some (.int kd x)):
  ∃u,w.cell? ⟨g,p,none⟩=some u∧w.frozen? ⟨g,p,none⟩=false∧Inv P St mt e n cs k (.slice (some ⟨g,0,none⟩) n cap) bs w0 (p+1) (w.setCell ⟨g,p,none⟩ (.int kd (k+GB cs p))):=by
 obtain⟨g',cap',e1,⟨u,h1⟩,h2,h3⟩:=h.int hd hn hp
 obtain rfl:=dR e1
 exact⟨u,h1,h2,h3⟩
theorem Inv.str'{x:List UInt8}(h:Inv P St mt e n cs k (.slice (some ⟨g,0,none⟩) n cap) bs w0 p w)(hd:Ca cs=true)(hn:bs.Nodup)(hp:cs[p]? =some (.str x))(hm:(mt (k+GB cs p)).length<=maxLen):
  ∃u,w.cell? ⟨g,p,none⟩=some u∧w.frozen? ⟨g,p,none⟩=false∧Inv P St mt e n cs k (.slice (some ⟨g,0,none⟩) n cap) bs w0 (p+1) (w.setCell ⟨g,p,none⟩ (.string ⟨(mt (k+GB cs p)).toArray⟩)):=by
 obtain⟨g',cap',e1,⟨u,h1⟩,h2,h3⟩:=h.str hd hn hp hm
 obtain rfl:=dR e1
 exact⟨u,h1,h2,h3⟩
theorem Inv.own'{e':TypeId}{m:Nat}{ds:List V}{f:FuncId}(h:Inv P St mt e n cs k (.slice (some ⟨g,0,none⟩) n cap) bs w0 p w)(hd:Ca cs=true)(hn:bs.Nodup)(hbs:∀g∈bs,g < w0.heap.size)(hp:cs[p]? =some (.own e' m ds))
  (hm:Kh P f (.own e' m ds) (k+GB cs p) (.own e' m (Jb mt ds (k+GB cs p))) (k+GB cs p+D7 ds)):
  ∃u,w.cell? ⟨g,p,none⟩=some u∧Calls P f #[u,.int .i64 (k+GB cs p)] w (λe' w'=>e'=.returned (.int .i64 (k+GB cs (p+1)))∧Inv P St mt e n cs k (.slice (some ⟨g,0,none⟩) n cap) bs w0 (p+1) w'):=by
 obtain⟨g',cap',u,e1,h1,_,h2⟩:=h.own hd hn hbs hp hm
 obtain rfl:=dR e1
 refine⟨u,h1,?_⟩
 rw[c5 hp]
 have e2:k+((GB cs p+Ti (V.own e' m ds):Nat):Int)=k+GB cs p+D7 ds:=by rw[Ti];omega
 rw[e2]
 exact h2
theorem je{c:V}(hp:cs[p]? =some c)(hc:Ti c=1):k+(GB cs p:Int)+1=k+GB cs (p+1):=by rw[c5 hp,hc];omega
theorem ZP{c:V}{B:Int}(hp:cs[p]? =some c)(h:k+D7 cs<=B):k+(GB cs p:Int)+Ti c<=B:=by
 have h1:=c5 hp
 have h2:=mU cs (p+1)
 omega
theorem ZQ(h0:0<=k):0<=k+(GB cs p:Int):=by omega
theorem ag:∀(a b:List V) (k:Int),Rl mt (a++b) k=Rl mt a k++Rl mt b (k+EP a)
 |[],b,k=>by simp[Rl,EP]
 |c::a,b,k=>by
  cases c<;>(simp only[BN,Rl,EP,ag a b,CS,KB];try (congr 2;omega))
theorem Rx:∀(a b:List V),EP (a++b)=EP a+EP b
 |[],b=>by simp[EP]
 |c::a,b=>by cases c<;>(simp only[BN,EP,Rx a b];try omega)
theorem US:∀(cs:List V) (k:Int),Ca cs=true->Ca (Rl mt cs k)=true
 |[],_,_=>rfl
 |c::cs,k,h=>by
  have hd:deep c=true∧Ca cs=true:=by simpa[Ca]using h
  cases c<;>first|(simp only[Rl,Ca,hd.1,US cs _ hd.2,FG];done)|skip
  ·rename_i e n ds
   have h2:Ca ds=true:=hd.1
   simp only[Rl,Ca,deep,QA ds k h2,US cs _ hd.2,FG]
theorem lC{A D C:List V}{us:List Value}(h:AY P w St (A++(D++C)) us bs)(hdA:Ca A=true)(hdC:Ca C=true)(hn:bs.Nodup):
  ∃u1 ud u2 b1,us=u1++(ud++u2)∧u1.length=A.length∧ud.length=D.length∧AY P w St D ud b1∧b1.Nodup∧(∀x∈b1,x∈bs)∧
   (∀w' D',AY P w' St D' ud b1->(∀x∈bs,x∉b1->w'.heap[x]? =w.heap[x]?)->AY P w' St (A++(D'++C)) us bs):=by
 obtain⟨u1,u3,q1,q2,eu,eb,r1,r2⟩:=h.app
 obtain⟨ud,u2,b1,b2,eu2,eb2,r3,r4⟩:=r2.app
 have hnd:=hn
 rw[eb,eb2]at hnd
 have hq:=As.1 hnd
 have hq2:=As.1 hq.2.1
 refine⟨u1,ud,u2,b1,by rw[eu,eu2],r1.length,r3.length,r3,hq2.1,λx hx=>by rw[eb,eb2];simp[hx],λw' D' h1 hw=>?_⟩
 have hin:∀x,x∈q1∨x∈b2->w'.heap[x]? =w.heap[x]?:=λx hx=>hw x (by rw[eb,eb2];rcases hx with hx|hx<;>simp[hx]) (λhm=>by
  rcases hx with hx|hx
  ·exact hq.2.2 x hx x (by simp[hm]) rfl
  ·exact hq2.2.2 x hm x hx rfl)
 rw[eu,eu2,eb,eb2]
 exact AY.join (AY.kept _ hdA r1 (λx hx=>⟨hin x (.inl hx),λ_=>CV⟩)) (AY.join h1 (AY.kept _ hdC r4 (λx hx=>⟨hin x (.inr hx),λ_=>CV⟩)))
def Qc(P:Program)(St:Nat->Nat->Prop)(mt:Int->List UInt8)(cs:List V)(k:Int)(us:List Value)(bs:List Nat)(w0:World)(t:TypeId)(gb p:Nat)(w:World):Prop:=
 AY P w St (Rl mt (cs.take p) k++cs.drop p) us bs∧FrB bs w0 w∧w.heap[gb]? =some (.cells us.toArray t (0,0))∧gb < w.heap.size∧w0.heap.size<=gb∧SI w0 bs
variable {us:List Value}{t:TypeId}{gb:Nat}
theorem Qc.start(h:AY P w0 St cs us bs)(hd:Ca cs=true)(hbs:∀g∈bs,g < w0.heap.size)(hG:SI w0 bs):Qc P St mt cs k us bs w0 t w0.heap.size 0 (w0.alloc (.cells us.toArray t)):=by
 refine⟨?_,FrB.below ⟨rfl,rfl,rfl,by simp,λk hk=>Below.heap_alloc _ _ _ hk⟩,alloc_heap_new _ _,by simp,A9 _,hG⟩
 simp only[List.take_zero,Rl,IL,Bh]
 exact AY.kept cs hd h (λg hg=>⟨Below.heap_alloc _ _ _ (hbs g hg),λ_=>CV⟩)
theorem Qc.done(h:Qc P St mt cs k us bs w0 t gb p w)(hp:cs.length<=p):AY P w St (Rl mt cs k) us bs∧FrB bs w0 w:=by
 have:=h.1
 rw[CH hp,Dk hp,Bm]at this
 exact⟨this,h.2.1⟩
theorem Qc.skip{c:V}(h:Qc P St mt cs k us bs w0 t gb p w)(hp:cs[p]? =some c)(hc:∀k,Rl mt [c] k=[c]):Qc P St mt cs k us bs w0 t gb (p+1) w:=by
 obtain⟨es,hk⟩:=Pi hp
 refine⟨?_,h.2⟩
 have hd:cs.drop p=c::cs.drop (p+1):=by
  rw[Ae hk]at hp
  injection hp with hp
  rw[<-hp,<-Bz hk]
 have:=h.1
 rw[hd]at this
 rw[aO hp,ag,hc,Bd,BN,Bh]
 exact this
theorem Qc.part{m:Nat}(h:Qc P St mt cs k us bs w0 t gb p w)(hd:Ca cs=true)(hn:bs.Nodup)(hbs:∀g∈bs,g < w0.heap.size)(hm:p+m<=cs.length):
  ∃ud b1,ud.length=m∧(∀(j:Nat) (u:Value),ud[j]? =some u->w.cell? ⟨gb,p+j,none⟩=some u)∧AY P w St ((cs.drop p).take m) ud b1∧b1.Nodup∧(∀g∈b1,g < w.heap.size)∧SI w b1∧
   ∀w',AY P w' St (Rl mt ((cs.drop p).take m) (k+EP (cs.take p))) ud b1->FrB b1 w w'->Qc P St mt cs k us bs w0 t gb (p+m) w':=by
 have hsp:cs.drop p=(cs.drop p).take m++cs.drop (p+m):=by rw[<-Fi,Cc]
 have hdd:Ca (cs.take p)=true∧Ca (cs.drop (p+m))=true:=by
  have h1:=hd
  rw[<-Cc p cs,M7]at h1
  simp only[Ab]at h1
  have h2:=h1.2
  rw[hsp,M7]at h2
  simp only[Ab]at h2
  exact⟨h1.1,h2.2⟩
 have h0:=h.1
 rw[hsp]at h0
 obtain⟨u1,ud,u2,b1,eu,l1,l2,r,nd,sub,back⟩:=lC h0 (US _ _ hdd.1) hdd.2 hn
 have hla:(Rl mt (cs.take p) k).length=p:=by
  have:∀(a:List V) (k:Int),(Rl mt a k).length=a.length:=by
   intro a
   induction a with
   |nil=>intro k;rfl
   |cons c a ih=>intro k;cases c<;>simp[Rl,ih]
  rw[this,Bk];omega
 have hlt:∀g∈bs,g < w.heap.size:=λg hg=>A6 (hbs g hg) h.2.1.size
 refine⟨ud,b1,by rw[l2,Bk,BO];omega,λj u hu=>?_,r,nd,λg hg=>hlt g (sub g hg),(h.2.2.2.2.2.fr h.2.1).sub sub,λw' h1 hf=>?_⟩
 ·have hj:j < ud.length:=by
   rcases BZ j ud.length with h|h
   ·exact h
   ·rw[AU h]at hu;cases hu
  simp only[World.cell?,h.2.2.1]
  have:us[p+j]? =some u:=by
   rw[eu,Bn (by omega),l1,hla,CC,BA hj];exact hu
  simpa using this
 ·have hgb:gb∉bs:=λhm=>by have:=hbs gb hm;have:=h.2.2.2.2.1;omega
  refine⟨?_,h.2.1.trans (hf.more sub),?_,A6 h.2.2.2.1 hf.size,h.2.2.2.2⟩
  ·have ht:cs.take (p+m)=cs.take p++(cs.drop p).take m:=List.take_add
   rw[ht,ag,Bd]
   exact back w' _ h1 (λx hx hnx=>hf.block x (hlt x hx) hnx)
  ·rw[hf.block gb h.2.2.2.1 (λhm=>hgb (sub gb hm))];exact h.2.2.1
theorem Qc.own{e':TypeId}{m:Nat}{ds:List V}{f:FuncId}(h:Qc P St mt cs k us bs w0 t gb p w)(hd:Ca cs=true)(hn:bs.Nodup)(hbs:∀g∈bs,g < w0.heap.size)(hp:cs[p]? =some (.own e' m ds))
  (hm:Kh P f (.own e' m ds) (k+EP (cs.take p)) (.own e' m (Jb mt ds (k+EP (cs.take p)))) (k+EP (cs.take p)+D7 ds)):
  ∃u,w.cell? ⟨gb,p,none⟩=some u∧Calls P f #[u,.int .i64 (k+EP (cs.take p))] w (λe' w'=>e'=.returned (.int .i64 (k+EP (cs.take (p+1))))∧Qc P St mt cs k us bs w0 t gb (p+1) w'):=by
 obtain⟨_,hk⟩:=Pi hp
 obtain⟨ud,b1,l,hc,r,nd,hlt,hG,back⟩:=h.part (m:=1) hd hn hbs (by omega)
 have hds:(cs.drop p).take 1=[.own e' m ds]:=by
  have:=hp
  rw[Ae hk]at this
  injection this with this
  rw[Bz hk,this];rfl
 rw[hds]at r back
 obtain⟨u,us',q1,q2,e1,e2,hcl,ho,hr⟩:=r
 obtain⟨rfl,rfl⟩:=hr
 subst e1 e2
 rw[Bm]at nd hlt hG back
 refine⟨u,by simpa using hc 0 u rfl,(hm.2 w St u q1 ho nd hlt hG).mono ?_⟩
 rintro e'' w' ⟨h1,h2,h3⟩
 refine⟨?_,back w' ⟨u,[],q1,[],rfl,by simp,rfl,h2,rfl,rfl⟩ h3⟩
 rw[h1,aO hp,Rx]
 congr 2
 simp only[EP];omega
theorem Qc.agg{m:Nat}{ds:List V}{f:FuncId}(h:Qc P St mt cs k us bs w0 t gb p w)(hd:Ca cs=true)(hn:bs.Nodup)(hbs:∀g∈bs,g < w0.heap.size)(hpm:p+m<=cs.length)(hds:(cs.drop p).take m=ds)
  (hm:Kh P f (.agg ds) (k+EP (cs.take p)) (.agg (Rl mt ds (k+EP (cs.take p)))) (k+EP (cs.take p)+EP ds)):
  ∃ud:List Value,ud.length=m∧(∀(j:Nat) (u:Value),ud[j]? =some u->w.cell? ⟨gb,p+j,none⟩=some u)∧Calls P f #[.agg ud.toArray,.int .i64 (k+EP (cs.take p))] w (λe' w'=>e'=.returned (.int .i64 (k+EP (cs.take (p+m))))∧Qc P St mt cs k us bs w0 t gb (p+m) w'):=by
 obtain⟨ud,b1,l,hc,r,nd,hlt,hG,back⟩:=h.part (m:=m) hd hn hbs hpm
 rw[hds]at r back
 refine⟨ud,l,hc,(hm.2 w St _ b1 ⟨ud,rfl,r⟩ nd hlt hG).mono ?_⟩
 rintro e'' w' ⟨h1,⟨us',eu,h2⟩,h3⟩
 have eu':us'=ud:=by
  have h5:=congrArg Array.toList (Value.agg.inj eu)
  simpa using h5.symm
 subst eu'
 refine⟨?_,back w' h2 h3⟩
 have ht:cs.take (p+m)=cs.take p++(cs.drop p).take m:=List.take_add
 rw[h1,ht,Rx,hds]
 congr 2
 omega
end
end Go.Proofs.YtckmdkajoiegmaaGreatDoor
namespace Go.Proofs.YtckmdkajoiegmaaGreatDoor
def mB:Int:=9223372036854775000
def Yk{α:Type}(cnt:α->Nat)(mk:α->Int->α):List α->Int->List α
 |[],_=>[]
 |x::l,k=>mk x k::Yk cnt mk l (k+(cnt x:Int))
def I0{α:Type}(cnt:α->Nat):List α->Nat
 |[]=>0
 |x::l=>cnt x+I0 cnt l
theorem Nd{α:Type}{cnt:α->Nat}{mk:α->Int->α}:∀(l:List α) (k:Int),(Yk cnt mk l k).length=l.length
 |[],_=>rfl
 |x::l,k=>by rw[Yk,AL,AL,Nd l]
section
variable {mt:Int->List UInt8}
theorem Sw{α:Type}{f:α->List V}{cnt:α->Nat}{mk:α->Int->α}(h1:∀x k,Jb mt (f x) k=f (mk x k))(h2:∀x,D7 (f x)=cnt x):∀(l:List α) (k:Int),Jb mt (l.flatMap f) k=(Yk cnt mk l k).flatMap f
 |[],_=>rfl
 |x::l,k=>by rw[Ay,XE,h1,h2,Sw h1 h2 l,Yk,Ay]
theorem OJ{α:Type}{f:α->List V}{cnt:α->Nat}(h2:∀x,D7 (f x)=cnt x):∀(l:List α),D7 (l.flatMap f)=I0 cnt l
 |[]=>rfl
 |x::l=>by rw[Ay,Sk,h2,OJ h2 l,I0]
theorem kz{α:Type}{f:α->List V}{cnt:α->Nat}{mk:α->Int->α}{e:TypeId}(h1:∀x k,Jb mt (f x) k=f (mk x k))(h2:∀x,D7 (f x)=cnt x)(l:List α)(k:Int):mkV mt (.own e l.length (l.flatMap f)) k=.own e (Yk cnt mk l k).length ((Yk cnt mk l k).flatMap f):=by
 rw[mkV,Sw h1 h2,Nd]
theorem Wo{α:Type}{f:α->List V}{cnt:α->Nat}{e:TypeId}{n:Nat}(h2:∀x,D7 (f x)=cnt x)(l:List α):Ti (.own e n (l.flatMap f))=I0 cnt l:=by rw[Ti,OJ h2]
theorem mkc{c c':V}{cs cs':List V}{k:Int}{n:Nat}(h1:mkV mt c k=c')(hn:Ti c=n)(h2:Jb mt cs (k+(n:Int))=cs'):Jb mt (c::cs) k=c'::cs':=by rw[Jb,h1,hn,h2]
theorem rj{c:V}{cs:List V}{n m:Nat}(hn:Ti c=n)(h2:D7 cs=m):D7 (c::cs)=n+m:=by rw[D7,hn,h2]
theorem mka{c:V}{cs cs':List V}{k:Int}(h1:∀r k,Rl mt (c::r) k=c::Rl mt r k)(h2:Rl mt cs k=cs'):Rl mt (c::cs) k=c::cs':=by rw[h1,h2]
theorem gN{α:Type}{f:α->List V}{cnt:α->Nat}{mk:α->Int->α}{e:TypeId}(h1:∀x k,Jb mt (f x) k=f (mk x k))(h2:∀x,D7 (f x)=cnt x)(l:List α){cs cs':List V}{k:Int}(h3:Rl mt cs (k+(I0 cnt l:Int))=cs'):
  Rl mt (.own e l.length (l.flatMap f)::cs) k=.own e (Yk cnt mk l k).length ((Yk cnt mk l k).flatMap f)::cs':=by rw[Rl,Sw h1 h2,OJ h2,Nd,h3]
theorem vN{c:V}{cs:List V}{m:Nat}(h1:∀r,EP (c::r)=EP r)(h2:EP cs=m):EP (c::cs)=m:=by rw[h1,h2]
theorem YJ{α:Type}{f:α->List V}{cnt:α->Nat}{e:TypeId}{n:Nat}(h2:∀x,D7 (f x)=cnt x)(l:List α){cs:List V}{m:Nat}(h3:EP cs=m):EP (.own e n (l.flatMap f)::cs)=I0 cnt l+m:=by rw[EP,OJ h2,h3]
theorem dpc{c:V}{cs:List V}(h1:deep c=true)(h2:Ca cs=true):Ca (c::cs)=true:=by rw[Ca,h1,h2];rfl
theorem dpo{α:Type}{f:α->List V}(h:∀x,Ca (f x)=true){e:TypeId}{n:Nat}(l:List α):deep (.own e n (l.flatMap f))=true:=L8 h l
theorem oU{k:Int}{n:Nat}(h:n=0):(some (Value.int .i64 k))=some (.int .i64 (k+(n:Int))):=by subst h;simp
theorem eE{cs:List V}(p m:Nat):EP (cs.take p)+EP ((cs.drop p).take m)<=EP cs:=by
 have h1:=Rx (cs.take p) (cs.drop p)
 rw[Cc]at h1
 have h2:=Rx ((cs.drop p).take m) ((cs.drop p).drop m)
 rw[Cc]at h2
 omega
theorem Sj{cs:List V}{k B:Int}{p:Nat}{e:TypeId}{n:Nat}{ds:List V}(hp:cs[p]? =some (.own e n ds))(h:k+EP cs<=B):k+(EP (cs.take p):Int)+D7 ds<=B:=by
 have h1:=eE (cs:=cs) p 1
 obtain⟨_,hk⟩:=Pi hp
 have h2:(cs.drop p).take 1=[.own e n ds]:=by
  rw[Ae hk]at hp
  injection hp with hp
  rw[Bz hk,hp];rfl
 rw[h2]at h1
 simp only[EP]at h1
 omega
theorem bo{cs ds:List V}{k B:Int}{p m:Nat}(hp:(cs.drop p).take m=ds)(h:k+EP cs<=B):k+(EP (cs.take p):Int)+EP ds<=B:=by
 have h1:=eE (cs:=cs) p m
 rw[hp]at h1
 omega
end
section
variable {P:Program}{nt:Nat}{bx:List Nat}{T:TS}
theorem args1{s:Nat}{u:Value}(hs:T s=some u):∀a,Has T nt a->(#[Operand.tmp s].map a.eval)= #[u]:=λa ha=>by simp[JJ ha hs]
theorem args2{s t:Nat}{u v:Value}(hs:T s=some u)(ht:T t=some v):∀a,Has T nt a->(#[Operand.tmp s,Operand.tmp t].map a.eval)= #[u,v]:=λa ha=>by simp[JJ ha hs,JJ ha ht]
theorem LT{f:FuncId}{rs:List ResultVar}{l:LC}(hl:Lit P f nt bx rs l):JM P f:=by
 obtain⟨⟨fn,c,h1,h2,h3,_⟩,_⟩:=hl
 exact⟨fn,h1,by rw[h2];rfl,h3⟩
theorem iD{f:FuncId}{k:Int}{r:List UInt8}(hs:AI P f [.int .i64 k] (.str r)){w:World}{bs:List Nat}(hG:SI w bs):Calls P f #[.int .i64 k] w (λe w'=>e=.returned (.string ⟨r.toArray⟩)∧Below w.heap.size w w'):=by
 refine(hs.2 w (λb _=>b < w.heap.size∧b∉bs) [.int .i64 k] (λ_ _ h=>h.1) hG ⟨_,_,rfl,rfl,rfl⟩).mono ?_
 rintro e w' ⟨v,bs,St',rfl,hb,_,_,ho,_⟩
 exact⟨congrArg Ending.returned ho.2.1,hb⟩
end
end Go.Proofs.YtckmdkajoiegmaaGreatDoor
namespace Go.Proofs.YtckmdkajoiegmaaGreatDoor
def sfL(s:Nat):List (Nat×V)->Prop
 |[]=>True
 |(q,c)::L=>(q=s∨H0 c=true)∧sfL s L
theorem sfn{s:Nat}:sfL s []:=trivial
theorem Zp{s q:Nat}{c:V}{L:List (Nat×V)}(h:H0 c=true)(k:sfL s L):sfL s ((q,c)::L):=⟨.inr h,k⟩
theorem sfs{s:Nat}{c:V}{L:List (Nat×V)}(k:sfL s L):sfL s ((s,c)::L):=⟨.inl rfl,k⟩
theorem fS{s:Nat}:∀{L:List (Nat×V)},sfL s L->∀q,q≠s->H0 (Cd L q)=true
 |[],_,q,_=>rfl
 |(r,c)::L,⟨h1,h2⟩,q,hq=>by
  by_cases e:q=r
  ·subst e
   rw[show Cd ((q,c)::L) q=c from by simp[Cd,upd_same]]
   rcases h1 with h1|h1
   ·exact absurd h1 hq
   ·exact h1
  ·rw[show Cd ((r,c)::L) q=Cd L q from by simp[Cd,upd_ne _ _ e]]
   exact fS h2 q hq
theorem scn:([]:List V).all M5=true:=rfl
theorem scc{c:V}{cs:List V}(h:M5 c=true)(k:cs.all M5=true):(c::cs).all M5=true:=by rw[A7,h,k];rfl
theorem Zm{α:Type}{f:α->List V}(h:∀x,Ca (f x)=true){e:TypeId}{n:Nat}(l:List α):M5 (.own e n (l.flatMap f))=true:=by
 unfold M5;rw[MQ];exact N1 (L8 h l)
theorem YF:∀{a b:List V},FV (a++b)=(FV a&&FV b)
 |[],b=>by simp[FV]
 |c::a,b=>by rw[BN,FV,FV,YF (a:=a),Bool.and_assoc]
theorem Oy{α:Type}{f:α->List V}(h:∀x,FV (f x)=true):∀l:List α,FV (l.flatMap f)=true
 |[]=>rfl
 |x::l=>by rw[Ay,YF,h x,Oy h l];rfl
theorem sca{α:Type}{f:α->List V}(h:∀x,FV (f x)=true){n:Nat}(l:List α):M5 (.arg n (l.flatMap f))=true:=by
 unfold M5;rw[MQ];exact Oy h l
theorem adc{c:V}{cs:List V}(h1:JG c=true)(h2:FV cs=true):FV (c::cs)=true:=by rw[FV,h1,h2];rfl
theorem ada{α:Type}{f:α->List V}(h:∀x,FV (f x)=true){n:Nat}(l:List α):JG (.arg n (l.flatMap f))=true:=Oy h l
mutual
def upV:V->V
 |.dat n cs=>.arg n (upL cs)
 |.agg cs=>.agg (upL cs)
 |.int k n=>.int k n
 |.bool b=>.bool b
 |.str s=>.str s
 |_=>.undef
def upL:List V->List V
 |[]=>[]
 |c::cs=>upV c::upL cs
end
theorem pb{cs:List V}(h:cs=[]):upL cs=[]:=by subst h;rfl
mutual
def plD:V->Bool
 |.dat _ cs=>Wb cs
 |.int _ _=>true
 |.bool _=>true
 |.str _=>true
 |_=>false
def Wb:List V->Bool
 |[]=>true
 |c::cs=>plD c&&Wb cs
end
section
variable {w:World}
mutual
theorem Rd.up:∀(c:V) {v:Value},plD c=true->Rd w (YC w) c v->Rd w (YC w) (upV c) v
 |.int _ _,_,_,h=>h
 |.bool _,_,_,h=>h
 |.str _,_,_,h=>h
 |.dat _ cs,_,hp,⟨hn,A,c,e,hc,h,h0⟩=>⟨hn,A,c,e,hc,λhz=>by
   obtain⟨b,off,ea,hr⟩:=h hz
   refine⟨b,off,ea,λhne o=>?_,Da.up b off cs hp hr⟩
   cases cs with
   |nil=>exact absurd rfl hne
   |cons c cs=>exact hr.1.1,λhz=>pb (h0 hz)⟩
 |.own _ _ _,_,hp,_=>by cases hp
 |.arg _ _,_,hp,_=>by cases hp
 |.pin _ _ _,_,hp,_=>by cases hp
 |.agg _,_,hp,_=>by cases hp
 |.tup _,_,hp,_=>by cases hp
 |.box _,_,hp,_=>by cases hp
 |.uni _ _ _,_,hp,_=>by cases hp
 |.same _,_,hp,_=>by cases hp
 |.val _ _,_,hp,_=>by cases hp
 |.cref _ _,_,hp,_=>by cases hp
 |.adr _ _,_,hp,_=>by cases hp
 |.gh _ _,_,hp,_=>by cases hp
 |.undef,_,hp,_=>by cases hp
theorem Da.up(b:Nat):∀(off:Nat) (cs:List V),Wb cs=true->Da w (YC w) b off cs->Da w (YC w) b off (upL cs)
 |_,[],_,_=>trivial
 |off,c::cs,hp,⟨⟨h1,u,hu,hr⟩,h2⟩=>by
  have hp':plD c=true∧Wb cs=true:=by simpa[Wb]using hp
  exact⟨⟨h1,u,hu,Rd.up c hp'.1 hr⟩,Da.up b (off+1) cs hp'.2 h2⟩
end
theorem Ml.up:∀(cs:List V) {us:List Value},Wb cs=true->Ml w (YC w) cs us->Ml w (YC w) (upL cs) us
 |[],_,_,h=>h
 |c::cs,_,hp,⟨u,us',e,h1,h2⟩=>by
  have hp':plD c=true∧Wb cs=true:=by simpa[Wb]using hp
  exact⟨u,us',e,Rd.up c hp'.1 h1,Ml.up cs hp'.2 h2⟩
end
def Ups(d a:List V):Prop:=upL d=a∧Wb d=true
theorem upn:Ups [] []:=⟨rfl,rfl⟩
theorem upc{c c':V}{cs cs':List V}(h1:upV c=c'∧plD c=true)(h2:Ups cs cs'):Ups (c::cs) (c'::cs'):=⟨by rw[upL,h1.1,h2.1],by rw[Wb,h1.2,h2.2];rfl⟩
theorem pf{a b a' b':List V}(h1:Ups a a')(h2:Ups b b'):Ups (a++b) (a'++b'):=by
 obtain⟨rfl,p1⟩:=h1
 obtain⟨rfl,p2⟩:=h2
 induction a with
 |nil=>exact⟨rfl,p2⟩
 |cons c a ih=>
  have hp:plD c=true∧Wb a=true:=by simpa[Wb]using p1
  exact upc ⟨rfl,hp.1⟩ (ih hp.2)
theorem cP{α:Type}{f g:α->List V}(h:∀x,Ups (f x) (g x)):∀l:List α,Ups (l.flatMap f) (l.flatMap g)
 |[]=>upn
 |x::l=>by rw[Ay,Ay];exact pf (h x) (cP h l)
theorem pe{α:Type}{f g:α->List V}(h:∀x,Ups (f x) (g x))(l:List α):upV (.dat l.length (l.flatMap f))=.arg l.length (l.flatMap g)∧plD (.dat l.length (l.flatMap f))=true:=by
 obtain⟨h1,h2⟩:=cP h l
 exact⟨by rw[upV,h1],by rw[plD];exact h2⟩
theorem ZN(n:Int):Ups (Am n) (Am n):=⟨rfl,rfl⟩
theorem ol{w:World}{d a:List V}{v:Value}(h:Ups d a)(hr:Wi w (YC w) (.agg d) v):Wi w (YC w) (.agg a) v:=by
 obtain⟨us,e,hr⟩:=hr
 exact⟨us,e,by rw[<-h.1];exact hr.up _ h.2⟩
theorem oo{w:World}{d a:V}{v:Value}(h:upV d=a∧plD d=true)(hr:Wi w (YC w) d v):Wi w (YC w) a v:=by
 obtain⟨rfl,h2⟩:=h
 cases d<;>first|(cases h2;done)|exact Rd.up _ h2 hr
end Go.Proofs.YtckmdkajoiegmaaGreatDoor

/-
 A machine on data, part 4: functions that mark. Over no program; no conditions.
-/
import Derived.Test.YtaagdgjndpgdgaaGreatDoorKp
import Derived.Test.YtaagdgjndpgdgaaGreatDoorKq
import Derived.Test.YtaagdgjndpgdgaaGreatDoorKb
import Derived.Test.YtaagdgjndpgdgaaGreatDoorKc
open Go.RowKit
set_option linter.unusedVariables false
set_option linter.unusedSimpArgs false
namespace Go.Proofs.YtaagdgjndpgdgaaGreatDoor
section
variable {P:Program}{w w':World}{St St':Nat->Nat->Prop}
theorem OX:∀{a b:List V},Cm (a++b)=(Cm a&&Cm b)
 |[],b=>by simp[Cm]
 |c::a,b=>by rw[BT,Cm,Cm,OX (a:=a),Bool.and_assoc]
theorem Rn{cs:List V}{p:Nat}{c:V}(hp:cs[p]? =some c):cs=cs.take p++c::cs.drop (p+1)∧p < cs.length:=by
 have hk:p < cs.length:=by
  rcases A8 p cs.length with h|h
  ·exact h
  ·rw[Bt h]at hp;cases hp
 have hx:cs[p]=c:=by rw[Ad hk]at hp;injection hp
 refine⟨?_,hk⟩
 rw[<-hx,<-AO hk,BG]
theorem kg{e:TypeId}{n:Nat}{cs:List V}{v:Value}{bs:List Nat}{p:Nat}{c:V}(h:Ow P w St (.own e n cs) v bs)(hd:Cm cs=true)(hn:bs.Nodup)(hp:cs[p]? =some c):
  ∃g cap cur u b1,v=.slice (some ⟨g,0,none⟩) n cap∧w.heap[g]? =some (.cells cur e (0,0))∧w.cell? ⟨g,p,none⟩=some u∧w.frozen? ⟨g,p,none⟩=false∧g∈bs∧g∉b1∧b1.Nodup∧(∀x∈b1,x∈bs)∧c.Do=true∧Ow P w St c u b1∧
   (∀w' c',Ow P w' St c' u b1->c'.Do=true->(∀x∈bs,x∉b1->w'.heap[x]? =w.heap[x]?)->Ow P w' St (.own e n (cs.set p c')) v bs)∧
   (b1=[]->∀u' c',(∀w,Ow P w St c' u' [])->c'.Do=true->Ow P (w.setCell ⟨g,p,none⟩ u') St (.own e n (cs.set p c')) v bs):=by
 obtain⟨hl,xs,bs',h1,h2,h3,h4,h5⟩:=h
 obtain⟨es,hk⟩:=Rn hp
 have hpos:n≠0:=λh0=>by rw[h5 h0]at hk;simp at hk
 rcases h1.2 with h|⟨g,cap,cur,rfl,hg,hh,hcap,hm,hsz,hx⟩
 ·exact absurd h.2 hpos
 have h20:=h2
 rw[es]at h20
 obtain⟨us1,us2,q1,q2,eu,eb,r1,r2⟩:=h20.app
 obtain⟨u,us3,b1,b2,eu2,eb2,hc,r3,r4⟩:=r2
 have hl1:us1.length=p:=by rw[r1.length,At];omega
 have hxl:xs.length=n * TG P e:=h1.1
 have hpx:p < xs.length:=by rw[eu,eu2,Aq,Az];omega
 have hxp:xs[p]? =some u:=by rw[eu,eu2,BP (by omega),hl1,F9,BX]
 have hcur:cur[p]? =some u:=by
  have e1:=hxp
  rw[<-hx,Dv,AH (by omega)]at e1
  simpa using e1
 have hbs:bs=g::bs':=by rw[h3];rfl
 have hnd:g∉bs'∧bs'.Nodup:=by rw[hbs]at hn;exact BQ.1 hn
 have hq:q1.Nodup∧(b1++b2).Nodup∧∀x∈q1,∀y∈b1++b2,x≠y:=by have:=hnd.2;rw[eb,eb2]at this;exact Ax.1 this
 have hq2:=Ax.1 hq.2.1
 have hset:cs.set p=λc'=>cs.take p++c'::cs.drop (p+1):=by
  funext c'
  rw[D8,AH hk]
 have hdd:Cm (cs.take p)=true∧Cm (cs.drop (p+1))=true:=by
  rw[es,OX,Cm]at hd
  simp only[Ac]at hd
  exact⟨hd.1,hd.2.2⟩
 have hcell:w.cell? ⟨g,p,none⟩=some u:=by simp only[World.cell?,hh];simpa using hcur
 have hnil:∀c',n=0->cs.set p c'=[]:=λc' h0=>absurd h0 hpos
 refine⟨g,cap,cur,u,b1,rfl,hh,hcell,by simp[World.frozen?,hh],by rw[hbs];simp,λhm=>hnd.1 (by rw[eb,eb2];simp[hm]),hq2.1,λx hx=>by rw[hbs,eb,eb2];simp[hx],hc,r3,?_,?_⟩
 ·intro w' c' ho hc' hw
  have hg':w'.heap[g]? =w.heap[g]?:=hw g (by rw[hbs];simp) (λhm=>hnd.1 (by rw[eb,eb2];simp[hm]))
  have hin:∀x,x∈q1∨x∈b2->w'.heap[x]? =w.heap[x]?:=λx hx=>hw x (by rw[hbs,eb,eb2];rcases hx with hx|hx<;>simp[hx]) (λhm=>by
   rcases hx with hx|hx
   ·exact hq.2.2 x hx x (by simp[hm]) rfl
   ·exact hq2.2.2 x hm x hx rfl)
  refine⟨hl,xs,bs',⟨h1.1,.inr ⟨g,cap,cur,rfl,hg,by rw[hg'];exact hh,hcap,hm,hsz,hx⟩⟩,?_,h3,h4,hnil c'⟩
  rw[hset,eu,eu2,eb,eb2]
  exact Bb.join (Bb.kept _ hdd.1 r1 (λx hx=>⟨hin x (.inl hx),λ_=>CM⟩)) ⟨u,us3,b1,b2,rfl,rfl,hc',ho,Bb.kept _ hdd.2 r4 (λx hx=>⟨hin x (.inr hx),λ_=>CM⟩)⟩
 ·intro hb0 u' c' ho hc'
  have hother:∀x,x≠g->(w.setCell ⟨g,p,none⟩ u').heap[x]? =w.heap[x]?:=λx hx=>Below.heap_setCell _ _ _ _ hx
  have hnew:(w.setCell ⟨g,p,none⟩ u').heap[g]? =some (.cells (cur.setIfInBounds p u') e (0,0)):=by
   simp only[World.setCell,Array.getElem?_modify,ED,hh]
   rfl
  subst hb0
  refine⟨hl,us1++u'::us3,bs',⟨?_,.inr ⟨g,cap,cur.setIfInBounds p u',rfl,hg,hnew,hcap,hm,by rw[Array.size_setIfInBounds];exact hsz,?_⟩⟩,?_,h3,h4,hnil c'⟩
  ·rw[<-hxl,eu,eu2];simp
  ·rw[Array.toList_setIfInBounds,List.take_set,hx,eu,eu2,FG _ _ (by omega),hl1,F9,GU]
  ·rw[hset,eb,eb2]
   have hne:∀x,x∈q1∨x∈b2->x≠g:=λx hx e=>hnd.1 (by rw[<-e,eb,eb2];rcases hx with hx|hx<;>simp[hx])
   exact Bb.join (Bb.kept _ hdd.1 r1 (λx hx=>⟨hother x (hne x (.inl hx)),λ_=>CM⟩)) ⟨u',us3,[],b2,rfl,rfl,hc',ho _,Bb.kept _ hdd.2 r4 (λx hx=>⟨hother x (hne x (.inr hx)),λ_=>CM⟩)⟩
end
mutual
def SK:V->Nat
 |.int _ _=>1
 |.str _=>1
 |.own _ _ cs=>Dr cs
 |_=>0
def Dr:List V->Nat
 |[]=>0
 |c::cs=>SK c+Dr cs
end
section
variable (mt:Int->List UInt8)
mutual
def mkV:V->Int->V
 |.int kd _,k=>.int kd k
 |.str _,k=>.str (mt k)
 |.own e n cs,k=>.own e n (Ic cs k)
 |c,_=>c
def Ic:List V->Int->List V
 |[],_=>[]
 |c::cs,k=>mkV c k::Ic cs (k+SK c)
end
def TB:List V->Int->List V
 |[],_=>[]
 |.own e n cs::r,k=>.own e n (Ic mt cs k)::TB r (k+Dr cs)
 |c::r,k=>c::TB r k
end
def Fo:List V->Nat
 |[]=>0
 |.own _ _ cs::r=>Dr cs+Fo r
 |_::r=>Fo r
theorem UN:∀(a b:List V),Dr (a++b)=Dr a+Dr b
 |[],b=>by simp[Dr]
 |c::a,b=>by rw[BT,Dr,Dr,UN a b];omega
section
variable {mt:Int->List UInt8}
theorem aX:∀(a b:List V) (k:Int),Ic mt (a++b) k=Ic mt a k++Ic mt b (k+Dr a)
 |[],b,k=>by simp[Ic,Dr]
 |c::a,b,k=>by rw[BT,Ic,Ic,aX a b,BT,Dr,show k+((SK c+Dr a:Nat):Int)=k+SK c+Dr a by omega]
theorem Uk:∀(a:List V) (k:Int),(Ic mt a k).length=a.length
 |[],k=>rfl
 |c::a,k=>by rw[Ic,Az,Az,Uk a]
mutual
theorem oB:∀(c:V) (k:Int),deep c=true->deep (mkV mt c k)=true
 |.tok _,_,_=>rfl
 |.int _ _,_,_=>rfl
 |.bool _,_,h=>h
 |.str _,_,_=>rfl
 |.own _ _ cs,k,h=>SN cs k h
 |.agg _,_,h=>h
 |.dat _ _,_,h=>h
 |.arg _ _,_,h=>h
 |.pin _ _ _,_,h=>h
 |.tup _,_,h=>h
 |.box _,_,h=>h
 |.uni _ _ _,_,h=>h
 |.same _,_,h=>h
 |.val _ _,_,h=>h
 |.cref _ _,_,h=>h
 |.adr _ _,_,h=>h
 |.gh _ _,_,h=>h
 |.undef,_,h=>h
theorem SN:∀(cs:List V) (k:Int),Cm cs=true->Cm (Ic mt cs k)=true
 |[],_,_=>rfl
 |c::cs,k,h=>by
  have hd:deep c=true∧Cm cs=true:=by simpa[Cm]using h
  rw[Ic,Cm,oB c k hd.1,SN cs _ hd.2];rfl
end
def pfx(mt:Int->List UInt8)(cs:List V)(k:Int)(p:Nat):List V:=Ic mt (cs.take p) k++cs.drop p
def EV(cs:List V)(p:Nat):Nat:=Dr (cs.take p)
theorem qG(cs:List V)(k:Int):pfx mt cs k 0=cs:=by simp[pfx,Ic]
theorem uy(cs:List V)(k:Int)(p:Nat)(h:cs.length<=p):pfx mt cs k p=Ic mt cs k:=by simp[pfx,CB h,BO h]
theorem mG(cs:List V):EV cs 0=0:=rfl
theorem oq(cs:List V)(p:Nat)(h:cs.length<=p):EV cs p=Dr cs:=by simp[EV,CB h]
theorem j8{cs:List V}{k:Int}{p:Nat}{c:V}(h:cs[p]? =some c):(pfx mt cs k p)[p]? =some c:=by
 obtain⟨_,hk⟩:=Rn h
 have hl:(Ic mt (cs.take p) k).length=p:=by rw[Uk,At];omega
 rw[pfx,BP (by omega),hl,F9,Cz,Cb,h]
theorem fB{cs:List V}{p:Nat}{c:V}(h:cs[p]? =some c):cs.take (p+1)=cs.take p++[c]:=by
 obtain⟨_,hk⟩:=Rn h
 rw[A9 hk]
 rw[Ad hk]at h
 injection h with h
 rw[h]
theorem jm{cs:List V}{p:Nat}{c:V}(h:cs[p]? =some c):EV cs (p+1)=EV cs p+SK c:=by
 rw[EV,fB h,UN,Dr,Dr];rfl
theorem sT(cs:List V)(p:Nat):EV cs p<=Dr cs:=by
 have:=UN (cs.take p) (cs.drop p)
 rw[BG]at this
 unfold EV
 omega
theorem qE{cs:List V}{k:Int}{p:Nat}{c:V}(h:cs[p]? =some c):(pfx mt cs k p).set p (mkV mt c (k+EV cs p))=pfx mt cs k (p+1):=by
 obtain⟨_,hk⟩:=Rn h
 have hl:(Ic mt (cs.take p) k).length=p:=by rw[Uk,At];omega
 have hd:cs.drop p=c::cs.drop (p+1):=by
  rw[Ad hk]at h
  injection h with h
  rw[<-h,<-AO hk]
 rw[pfx,pfx,fB h,aX,FG _ _ (by omega),hl,F9,hd,GU]
 simp[Ic,EV]
theorem UP{cs:List V}{k:Int}{p:Nat}(h:Cm cs=true):Cm (pfx mt cs k p)=true:=by
 rw[<-BG p cs,OX]at h
 simp only[Ac]at h
 rw[pfx,OX,SN _ _ h.1,h.2];rfl
end
section
variable {P:Program}{St:Nat->Nat->Prop}{mt:Int->List UInt8}
def U9(w:World)(bs:List Nat):Prop:=Glb w (λb _=>b < w.heap.size∧b∉bs)
theorem U9.fr{w0 w:World}{bs:List Nat}(h:U9 w0 bs)(f:FrB bs w0 w):U9 w bs:=λp hp=>⟨λo=>⟨Bu ((h p hp).1 o).1 f.size,((h p hp).1 o).2⟩,λi x hx=>by rw[B7 (f.block p.1 ((h p hp).1 0).1 ((h p hp).1 0).2)];exact(h p hp).2 i x hx⟩
theorem U9.sub{w:World}{bs b1:List Nat}(h:U9 w bs)(hs:∀g∈b1,g∈bs):U9 w b1:=λp hp=>⟨λo=>⟨((h p hp).1 o).1,λhm=>((h p hp).1 o).2 (hs _ hm)⟩,(h p hp).2⟩
def Inv(P:Program)(St:Nat->Nat->Prop)(mt:Int->List UInt8)(e:TypeId)(n:Nat)(cs:List V)(k:Int)(v:Value)(bs:List Nat)(w0:World)(p:Nat)(w:World):Prop:=
 Ow P w St (.own e n (pfx mt cs k p)) v bs∧FrB bs w0 w∧U9 w0 bs
def Kt(P:Program)(f:FuncId)(c:V)(k:Int)(c':V)(k':Int):Prop:=
 Lf P f∧∀w St v bs,Ow P w St c v bs->bs.Nodup->(∀g∈bs,g < w.heap.size)->U9 w bs->Calls P f #[v,.int .i64 k] w (λe w'=>e=.returned (.int .i64 k')∧Ow P w' St c' v bs∧FrB bs w w')
variable {e:TypeId}{n:Nat}{cs:List V}{k:Int}{v:Value}{bs:List Nat}{w0 w:World}{p:Nat}
theorem Inv.start(h:Ow P w0 St (.own e n cs) v bs)(hG:U9 w0 bs):Inv P St mt e n cs k v bs w0 0 w0:=⟨by rw[qG];exact h,FrB.refl _ _,hG⟩
theorem Inv.glb(h:Inv P St mt e n cs k v bs w0 p w):U9 w bs:=h.2.2.fr h.2.1
theorem Inv.done(h:Inv P St mt e n cs k v bs w0 p w)(hp:cs.length<=p):Ow P w St (.own e n (Ic mt cs k)) v bs∧FrB bs w0 w:=by
 have:=h.1
 rw[uy _ _ _ hp]at this
 exact⟨this,h.2.1⟩
theorem Inv.int{kd:IntKind}{x:Int}(h:Inv P St mt e n cs k v bs w0 p w)(hd:Cm cs=true)(hn:bs.Nodup)(hp:cs[p]? =some (.int kd x)):
  ∃g cap,v=.slice (some ⟨g,0,none⟩) n cap∧(∃u,w.cell? ⟨g,p,none⟩=some u)∧w.frozen? ⟨g,p,none⟩=false∧Inv P St mt e n cs k v bs w0 (p+1) (w.setCell ⟨g,p,none⟩ (.int kd (k+EV cs p))):=by
 obtain⟨g,cap,cur,u,b1,e1,e2,e3,e4,e5,e6,e7,e8,e9,e10,e11,e12⟩:=kg h.1 (UP hd) hn (j8 hp)
 refine⟨g,cap,e1,⟨u,e3⟩,e4,?_,h.2.1.trans (FrB.set e5 _),h.2.2⟩
 rw[<-qE hp]
 exact e12 e10.1 _ _ (λw=>⟨rfl,rfl⟩) rfl
theorem Inv.str{x:List UInt8}(h:Inv P St mt e n cs k v bs w0 p w)(hd:Cm cs=true)(hn:bs.Nodup)(hp:cs[p]? =some (.str x))(hm:(mt (k+EV cs p)).length<=maxLen):
  ∃g cap,v=.slice (some ⟨g,0,none⟩) n cap∧(∃u,w.cell? ⟨g,p,none⟩=some u)∧w.frozen? ⟨g,p,none⟩=false∧Inv P St mt e n cs k v bs w0 (p+1) (w.setCell ⟨g,p,none⟩ (.string ⟨(mt (k+EV cs p)).toArray⟩)):=by
 obtain⟨g,cap,cur,u,b1,e1,e2,e3,e4,e5,e6,e7,e8,e9,e10,e11,e12⟩:=kg h.1 (UP hd) hn (j8 hp)
 refine⟨g,cap,e1,⟨u,e3⟩,e4,?_,h.2.1.trans (FrB.set e5 _),h.2.2⟩
 rw[<-qE hp]
 exact e12 e10.1 _ _ (λw=>⟨rfl,rfl,hm⟩) rfl
theorem Inv.grow{w':World}(h:Inv P St mt e n cs k v bs w0 p w)(hd:Cm cs=true)(hbs:∀g∈bs,g < w0.heap.size)(hb:Below w.heap.size w w'):Inv P St mt e n cs k v bs w0 p w':=
 ⟨Ow.kept (.own e n (pfx mt cs k p)) (by rw[deep];exact UP hd) h.1 (λg hg=>⟨hb.block g (Bu (hbs g hg) h.2.1.size),λ_=>CM⟩),h.2.1.trans (FrB.below hb),h.2.2⟩
theorem Inv.own{e':TypeId}{m:Nat}{ds:List V}{f:FuncId}{k':Int}(h:Inv P St mt e n cs k v bs w0 p w)(hd:Cm cs=true)(hn:bs.Nodup)(hbs:∀g∈bs,g < w0.heap.size)(hp:cs[p]? =some (.own e' m ds))
  (hm:Kt P f (.own e' m ds) (k+EV cs p) (.own e' m (Ic mt ds (k+EV cs p))) k'):
  ∃g cap u,v=.slice (some ⟨g,0,none⟩) n cap∧w.cell? ⟨g,p,none⟩=some u∧u.oneCell'=true∧Calls P f #[u,.int .i64 (k+EV cs p)] w (λe' w'=>e'=.returned (.int .i64 k')∧Inv P St mt e n cs k v bs w0 (p+1) w'):=by
 obtain⟨g,cap,cur,u,b1,e1,e2,e3,e4,e5,e6,e7,e8,e9,e10,e11,e12⟩:=kg h.1 (UP hd) hn (j8 hp)
 have hlt:∀x∈bs,x < w.heap.size:=λx hx=>Bu (hbs x hx) h.2.1.size
 refine⟨g,cap,u,e1,e3,(Ow.rd _ e10 rfl).oneCell,(hm.2 w St u b1 e10 e7 (λx hx=>hlt x (e8 x hx)) (h.glb.sub e8)).mono ?_⟩
 rintro e' w' ⟨h1,h2,h3⟩
 refine⟨h1,?_,h.2.1.trans (h3.more e8),h.2.2⟩
 rw[<-qE hp]
 exact e11 w' _ h2 rfl (λx hx hnx=>h3.block x (hlt x hx) hnx)
end
end Go.Proofs.YtaagdgjndpgdgaaGreatDoor
namespace Go.Proofs.YtaagdgjndpgdgaaGreatDoor
section
variable {P:Program}{nt:Nat}{base:Bs}{bx:List Nat}{St St' St0:Nat->Nat->Prop}{B:Nat->List Nat}{hand:List Nat}{σ σ':PS}{a:Act}{w w' w0:World}{K:PS->Prop}
theorem FrB.toBelow{bs:List Nat}(hf:FrB bs w w')(hb:∀g∈bs,¬base g)(hz:∀b,base b->b < w.heap.size):BelowK base.K w w':=
 ⟨hf.os,hf.tape,hf.output,hf.size,λk hk=>hf.block k (hz k hk) (λhm=>hb k hm hk)⟩
def Src(P:Program)(nt:Nat)(bx:List Nat)(σ:PS)(opA:Op)(s:Nat)(c c' cS:V):Prop:=
 ∀base St B a w o,HSim P nt bx base St B [] σ a w->o.op=opA->∃v bs,(execOp a.eval o).run P w=.ok (.value v) w∧Ow P w St c v bs∧bs.Nodup∧(∀g∈bs,g∈B s)∧∀w',Ow P w' St c' v bs->FrB bs w w'->Cd P w' St (tm a) cS (tm a s) (B s)
theorem u5{s:Nat}{e:TypeId}{n n':Nat}{cs cs':List V}(hs:σ s=.own e n cs):Src P nt bx σ (.move (.tmp s)) s (.own e n cs) (.own e n' cs') (.own e n' cs'):=by
 intro base St B a w o h ho
 have h1:=h.slot s
 rw[hs]at h1
 exact⟨tm a s,B s,by simp[execOp,ho];rfl,h1,h.nodup s,λg hg=>hg,λw' h2 _=>h2⟩
theorem fu{tb:Tb}(htb:H5 P tb){s:Nat}{T:TypeId}{n:Nat}{z:List V}{fs:List (Nat×Nat)}{cs cs':List V}(hT:tb T=some (.st n z fs))(hs:σ s=.box cs)(hn:cs.length=n):Src P nt bx σ (.load T (.tmp s)) s (.agg cs) (.agg cs') (.box cs'):=by
 intro base St B a w o h ho
 have h1:=h.slot s
 rw[hs]at h1
 obtain⟨g,Tg,bs',arr,e1,e2,h2,hB,h3⟩:=h1
 have hnd:=h.nodup s
 rw[hB]at hnd
 have hnd2:=BQ.1 hnd
 refine⟨.agg arr.toList.toArray,bs',?_,⟨arr.toList,rfl,h2⟩,hnd2.2,λx hx=>by rw[hB];simp[hx],?_⟩
 ·have hagr:=htb _ _ hT
  have hl:arr.toList.length=n:=by rw[h2.length,hn]
  have hr:=FD (P:=P) (w:=w) ⟨g,0,none⟩ arr.toList (λj v hv=>by
   rw[add_plain]
   simp only[World.cell?,e2,B6]
   simpa using hv)
  rw[hl]at hr
  have hev:a.eval (.tmp s)=.pointer (some ⟨g,0,none⟩):=e1
  simp[execOp,ho,hev,Instr.loadAt,Instr.sureAddr,loadVar,hagr.isAgg,hagr.sizeOf,TyD.VD,TyD.size,hr]
 ·rintro w' ⟨us,eu,h4⟩ hf
  have eu':us=arr.toList:=by
   have:=(Value.agg.inj eu)
   have h5:=congrArg Array.toList this
   simpa using h5.symm
  subst eu'
  have hlt:g < w.heap.size:=(h.range s g (by rw[hB];simp)).2
  exact⟨g,Tg,bs',arr,e1,by rw[hf.block g hlt hnd2.1];exact e2,h4,hB,h3⟩
theorem RE{ops:Array Oper}{o:Oper}{d:Option Nat}{p:Op}{t:TypeId}(h:CA ops o=⟨d,p,t,none⟩):o.dst=d∧o.op=p∧o.guard=none:=by
 have e1:=congrArg LO.dst h
 have e2:=congrArg LO.op h
 have e3:=congrArg LO.g h
 refine⟨e1,e2,?_⟩
 simpa[CA]using e3
theorem RP{ops:Array Oper}{R:Exit->Act->World->Prop}{o:Oper}{os:List Oper}(hg:o.guard=none)(h:o.wp P a w (wpList P ops R os) R):wpList P ops R (o::os) a w:=by
 have hw:Region.wanted o (yielded ops a.tmps)=true:=by simp[Region.wanted,hg]
 unfold wpList
 rw[AH hw]
 exact .inl h
theorem Zo{opA:Op}{s tA tk tR tK:Nat}{tyA tyk tyR tyK:TypeId}{ts:Array TypeId}{f:FuncId}{cns:List Nat}{y:LC}{k k':Int}{c c' cS:V}{Q:Exit->PS->Prop}
  (hsrc:Src P nt bx σ opA s c c' cS) (hna:m5 opA=false) (hk:σ tK=.int .i64 k) (hm:Kt P f c k c' k') (hd:deep c=true) (hsafe:∀q,q≠s->I5 (σ q)=true) (hb:(CU cS).isSome=(CU (σ s)).isSome) (hrf:DK cS=none)
  (hne:tK≠tA∧tA≠tk) (hcn:cns.contains tK=false) (hcR:cns.contains tR=false)
  (h:LS P nt bx y (upd (upd (upd (upd (upd σ s cS) tA .undef) tk .undef) tR .undef) tK (.int .i64 k')) Q):
  LS P nt bx (.seq (.rgn cns [⟨some tA,opA,tyA,none⟩,⟨some tk,.move (.tmp tK),tyk,none⟩,⟨some tR,.call {callee:=.value (.func f),args:= #[.tmp tA,.tmp tk],argTypes:=ts},tyR,none⟩,⟨some tK,.assign (.tmp tR),tyK,none⟩]) y) σ Q:=by
 refine aT ?_
 intro c0 hc hok hL
 cases c0<;>first|cases hc|skip
 rename_i id ops d
 simp only[Fe,RT]at hc
 split at hc
 ·cases hc
 rename_i hdd
 simp only[LC.rgn.injEq,LY]at hc
 have hd0:d=false:=by simpa using hdd
 subst hd0
 obtain⟨o1,l1,e1,q1,hc⟩:=DI.1 hc
 obtain⟨o2,l2,rfl,q2,hc⟩:=DI.1 hc
 obtain⟨o3,l3,rfl,q3,hc⟩:=DI.1 hc
 obtain⟨o4,l4,rfl,q4,hc⟩:=DI.1 hc
 have:=List.map_eq_nil_iff.1 hc
 subst this
 obtain⟨a1,b1,g1⟩:=RE q1
 obtain⟨a2,b2,g2⟩:=RE q2
 obtain⟨a3,b3,g3⟩:=RE q3
 obtain⟨a4,b4,g4⟩:=RE q4
 simp only[okC,e1,Bp,EI,CL,Ac]at hok
 obtain⟨k1,k2,k3,k4⟩:=hok
 have d1:=Q4 k1 a1 (by rw[b1];exact hna)
 have d2:=Q4 k2 a2 (by rw[b2];rfl)
 have hL3:okA bx cns ⟨some tR,.call {callee:=.value (.func f),args:= #[.tmp tA,.tmp tk],argTypes:=ts},tyR,none⟩=true:=by
  simp only[okL,Bp,Ac]at hL
  exact hL.2.2.1
 have d3':=io (cns:=cns) (ops:=ops) k3 (by rw[q3];exact hL3) b3 rfl a3
 have d3:tR < nt∧tR∉bx:=⟨d3'.1,d3'.2.2 hcR⟩
 have hL4:okA bx cns ⟨some tK,.assign (.tmp tR),tyK,none⟩=true:=by
  simp only[okL,Bp,Ac]at hL
  exact hL.2.2.2.1
 have d4:=qm (cns:=cns) (ops:=ops) k4 (by rw[q4];exact hL4) (.inl ⟨_,b4⟩) a4
 intro base St0 w0 a w hr
 refine wp_region_list ?_
 rw[e1]
 obtain⟨St,B,hS,hbl,hst,hz⟩:=hr
 obtain⟨v,bs,r1,ow,nd,sub,back⟩:=hsrc base St B a w o1 hS b1
 have hkv:tm a tK=.int .i64 k:=by have:=hS.slot tK;rw[hk]at this;exact Gb this
 have hK:tK∉bx:=d4.2.2 hcn
 have z0:a.tmps.size=nt:=hS.size
 have t1:=Yn a tA v (by rw[z0];exact d1.1)
 have z1:(a.put (some tA) v).tmps.size=nt:=by rw[size_put];exact z0
 have t2:=Yn (a.put (some tA) v) tk (.int .i64 k) (by rw[z1];exact d2.1)
 have z2:((a.put (some tA) v).put (some tk) (.int .i64 k)).tmps.size=nt:=by rw[size_put];exact z1
 have t3:=Yn ((a.put (some tA) v).put (some tk) (.int .i64 k)) tR (.int .i64 k') (by rw[z2];exact d3.1)
 have ev:∀(a:Act) (t:Nat),a.eval (.tmp t)=tm a t:=λ_ _=>rfl
 refine RP g1 (Io r1 ?_)
 rw[a1]
 have r2:(execOp (a.put (some tA) v).eval o2).run P w=.ok (.value (.int .i64 k)) w:=by
  simp[execOp,b2,ev,t1,upd_ne _ _ hne.1,hkv]
 refine RP g2 (Io r2 ?_)
 rw[a2]
 have eA:((a.put (some tA) v).put (some tk) (.int .i64 k)).eval (.tmp tA)=v:=by rw[ev,t2,upd_ne _ _ hne.2,t1,upd_same]
 have ek:((a.put (some tA) v).put (some tk) (.int .i64 k)).eval (.tmp tk)=.int .i64 k:=by rw[ev,t2,upd_same]
 obtain⟨⟨fn,hf,hbody,hname⟩,hcall⟩:=hm
 have r3:(execOp ((a.put (some tA) v).put (some tk) (.int .i64 k)).eval o3).run P w=.ok (.enter f #[v,.int .i64 k]) w:=by
  have e2:((a.put (some tA) v).put (some tk) (.int .i64 k)).eval (.func f)=.func (.func f) #[] #[]:=rfl
  simp only[execOp,b3,resolve,e2,Deferred.ofValue,AR,Bo,AG,invoke,callFunc,Kc,I1,GS,hf,hbody,hname]
  simp[eA,ek]
 refine RP g3 ?_
 unfold Oper.wp
 rw[r3,Ec]
 have hlt:∀g∈bs,g < w.heap.size:=λg hg=>(hS.range s g (sub g hg)).2
 have hG:U9 w bs:=λp hp=>⟨λo=>⟨hS.st _ _ ((hS.gl p hp).1 o),λhm=>(Ow.Qv c hd ow p.1 hm).elim λo' ho=>ho ((hS.gl p hp).1 o')⟩,(hS.gl p hp).2⟩
 refine(hcall w St v bs ow nd hlt hG).mono ?_
 rintro e w' ⟨rfl,ow',fr⟩
 show wpList P ops _ [o4] (((a.put (some tA) v).put (some tk) (.int .i64 k)).put o3.dst (.int .i64 k')) w'
 rw[a3]
 have r4:(execOp (((a.put (some tA) v).put (some tk) (.int .i64 k)).put (some tR) (.int .i64 k')).eval o4).run P w'=.ok (.value (.int .i64 k')) w':=by
  simp[execOp,b4,ev,t3,upd_same]
 refine RP g4 (Io r4 ?_)
 rw[a4]
 have h2:=mR hS sub fr (Ow.Qv c hd ow) hsafe (back w' ow' fr) hb hrf
 have h3:=h2.put (d:=tA) d1.1 d1.2 (c:=.undef) (v:=v) (bs:=[]) rfl AF (by simp) rfl (by intro b e;cases e)
 have h4:=h3.put (d:=tk) d2.1 d2.2 (c:=.undef) (v:=.int .i64 k) (bs:=[]) rfl AF (by simp) rfl (by intro b e;cases e)
 have h5:=h4.put (d:=tR) d3.1 d3.2 (c:=.undef) (v:=.int .i64 k') (bs:=[]) rfl AF (by simp) rfl (by intro b e;cases e)
 have h6:=h5.put (d:=tK) d4.1 hK (c:=.int .i64 k') (v:=.int .i64 k') (bs:=[]) ⟨rfl,rfl⟩ AF (by simp) rfl (by intro b e;cases e)
 exact⟨_,h,St,_,h6,hbl.trans (fr.toBelow (λg hg=>(hS.range s g (sub g hg)).1) hz),hst,Sn hz fr.size⟩
end
end Go.Proofs.YtaagdgjndpgdgaaGreatDoor
namespace Go.Proofs.YtaagdgjndpgdgaaGreatDoor
abbrev TS:=Nat->Option Value
def Has(T:TS)(nt:Nat)(a:Act):Prop:=a.tmps.size=nt∧a.defers=[]∧∀s u,T s=some u->tm a s=u
section
variable {P:Program}{nt:Nat}{bx:List Nat}{T:TS}{a:Act}{w w':World}{K:TS->World->Prop}{os:List LO}{tb:Tb}
theorem el{d:Nat}{u:Value}(h:Has T nt a)(hd:d < nt):Has (upd T d (some u)) nt (a.put (some d) u):=by
 refine⟨by rw[size_put];exact h.1,by rw[SO];exact h.2.1,λs x hx=>?_⟩
 rw[Yn a d u (by rw[h.1];exact hd)]
 by_cases e:s=d
 ·subst e;rw[upd_same]at hx⊢;injection hx
 ·rw[upd_ne _ _ e]at hx⊢;exact h.2.2 s x hx
theorem LI{s:Nat}{u:Value}(h:Has T nt a)(hs:T s=some u):a.eval (.tmp s)=u:=h.2.2 s u hs
def MO(P:Program)(nt:Nat)(bx:List Nat)(os:List LO)(T:TS)(w:World)(K:TS->World->Prop):Prop:=
 ∀(ops:Array Oper) (l:List Oper),l.map (CA ops)=os->l.all (S9 nt bx)=true->∀(R:Exit->Act->World->Prop),(∀T' a' w',K T' w'->Has T' nt a'->R .normal a' w')->∀a,Has T nt a->wpList P ops R l a w
theorem Ff(h:K T w):MO P nt bx [] T w K:=by
 intro ops l hl hok R hR a ha
 rw[List.map_eq_nil_iff.1 hl]
 exact hR T a w h ha
theorem eR{o:Oper}{d:Nat}(h:S9 nt bx o=true)(hd:o.dst=some d):d < nt:=by
 replace h:=a6 h
 unfold a5 at h
 rw[hd]at h
 simp only[Ac,BB]at h
 exact h.1
theorem S8{d:Nat}{op:Op}{ty:TypeId}{u:Value}(hr:∀(a:Act) (o:Oper),Has T nt a->o.op=op->(execOp a.eval o).run P w=.ok (.value u) w)(h:MO P nt bx os (upd T d (some u)) w K):MO P nt bx (⟨some d,op,ty,none⟩::os) T w K:=by
 intro ops l hl hok R hR a ha
 obtain⟨o,l',rfl,q,hl⟩:=DI.1 hl
 obtain⟨a1,b1,g1⟩:=RE q
 simp only[Bp,Ac]at hok
 refine RP g1 (Io (hr a o ha b1) ?_)
 rw[a1]
 exact h ops l' hl hok.2 R hR _ (el ha (eR hok.1 a1))
theorem Aaj{d:Nat}{op:Op}{ty:TypeId}{u:Value}(hr:∀(a:Act) (o:Oper),Has T nt a->o.op=op->(execOp a.eval o).run P w=.ok (.value u) w')(h:MO P nt bx os (upd T d (some u)) w' K):MO P nt bx (⟨some d,op,ty,none⟩::os) T w K:=by
 intro ops l hl hok R hR a ha
 obtain⟨o,l',rfl,q,hl⟩:=DI.1 hl
 obtain⟨a1,b1,g1⟩:=RE q
 simp only[Bp,Ac]at hok
 refine RP g1 (Io (hr a o ha b1) ?_)
 rw[a1]
 exact h ops l' hl hok.2 R hR _ (el ha (eR hok.1 a1))
theorem CT{d s:Nat}{ty:TypeId}{u:Value}(hs:T s=some u)(h:MO P nt bx os (upd T d (some u)) w K):MO P nt bx (⟨some d,.move (.tmp s),ty,none⟩::os) T w K:=
 S8 (λa o ha ho=>by simp[execOp,ho,LI ha hs]) h
theorem J7{d s:Nat}{ty:TypeId}{u:Value}(hs:T s=some u)(h:MO P nt bx os (upd T d (some u)) w K):MO P nt bx (⟨some d,.assign (.tmp s),ty,none⟩::os) T w K:=
 S8 (λa o ha ho=>by simp[execOp,ho,LI ha hs]) h
theorem gv(a:Act)(u:Value):a.eval (.const u)=u:=rfl
theorem WL{d:Nat}{ty:TypeId}{u:Value}(h:MO P nt bx os (upd T d (some u)) w K):MO P nt bx (⟨some d,.assign (.const u),ty,none⟩::os) T w K:=
 S8 (λa o ha ho=>by simp[execOp,ho,gv]) h
theorem Aai(htb:H5 P tb){d s:Nat}{t ty e:TypeId}{es eb n c:Nat}{ez:List V}{A:Option Addr}(ht:tb t=some (.sl e es eb ez))(hs:T s=some (.slice A n c))(h:MO P nt bx os (upd T d (some (.int .i64 n))) w K):
  MO P nt bx (⟨some d,.call {callee:=.builtin .len,args:= #[.tmp s],argTypes:= #[t]},ty,none⟩::os) T w K:=by
 obtain⟨i',j,zv,_,_,_,hu,hj,_⟩:=htb _ _ ht
 refine S8 (λa o ha ho=>?_) h
 have e1:=LI ha hs
 have hr:(Builtin.len_ #[t] o.type #[.slice A n c]).run P w=.ok (.int .i64 n) w:=by simp[Builtin.len_,Bm hu,goInt]
 simp only[execOp,ho,resolve,invoke,builtin,AR,Bo,AG,Gr,AB,Dc,e1,hr]
theorem Adh{d x y:Nat}{t t2 ty:TypeId}{m n:Int}(hx:T x=some (.int .i64 m))(hy:T y=some (.int .i64 n))(h:MO P nt bx os (upd T d (some (.bool (decide (m < n))))) w K):MO P nt bx (⟨some d,.binOp .lss t (.tmp x) (.tmp y) t2,ty,none⟩::os) T w K:=by
 refine S8 (λa o ha ho=>?_) h
 have e1:=LI ha hx
 have e2:=LI ha hy
 have hr:(do eqGuard .lss t (.tmp x) (.tmp y) (.int .i64 m) (.int .i64 n);binOp .lss t (.int .i64 m) (.int .i64 n):Sem Value).run P w=.ok (.bool (decide (m < n))) w:=by
  simp only[eqGuard,binOp,Op.intCmp,ne_eq,HF,Dt,AR];rfl
 simp only[AR]at hr
 simp only[execOp,ho,e1,e2,AR,hr,AG,Bo]
theorem VW{d x:Nat}{t t2 ty:TypeId}{m:Int}(hx:T x=some (.int .i64 m))(h0:0<=m)(h1:m < 9223372036854775807)(h:MO P nt bx os (upd T d (some (.int .i64 (m+1)))) w K):MO P nt bx (⟨some d,.binOp .add t (.tmp x) (.const (.int .i64 1)) t2,ty,none⟩::os) T w K:=by
 refine S8 (λa o ha ho=>?_) h
 have e1:=LI ha hx
 have e2:=gv a (.int .i64 1)
 have hw:IntKind.i64.wrap (m+1)=m+1:=by
  unfold IntKind.wrap
  simp[IntKind.signed,IntKind.bits]<;>omega
 have hr:(do eqGuard .add t (.tmp x) (.const (.int .i64 1)) (.int .i64 m) (.int .i64 1);binOp .add t (.int .i64 m) (.int .i64 1):Sem Value).run P w=.ok (.int .i64 (IntKind.i64.wrap (m+1))) w:=by
  simp only[eqGuard,binOp,Op.intArith,ne_eq,HF,Dt,AR];rfl
 rw[hw]at hr
 simp only[AR]at hr
 simp only[execOp,ho,e1,e2,AR,hr,AG,Bo]
theorem WM(htb:H5 P tb){d x y:Nat}{t ty e:TypeId}{es eb n c g j:Nat}{ez:List V}(ht:tb t=some (.sl e es eb ez))(hx:T x=some (.slice (some ⟨g,0,none⟩) n c))(hy:T y=some (.int .i64 j))(hj:j < n)
  (h:MO P nt bx os (upd T d (some (.pointer (some ⟨g,j * es,none⟩)))) w K):MO P nt bx (⟨some d,.indexAddr t (.tmp x) (.tmp y),ty,none⟩::os) T w K:=by
 obtain⟨i,jj,zv,_,_,_,hu,hjj,_,hes,_⟩:=htb _ _ ht
 refine S8 (λa o ha ho=>?_) h
 have e1:=LI ha hx
 have e2:=LI ha hy
 have hc:(0:Int)<=j∧(j:Int) < n:=by omega
 have hr:(Instr.indexAt t (.slice (some ⟨g,0,none⟩) n c) (.int .i64 j)).run P w=.ok (.pointer (some ⟨g,j * es,none⟩)) w:=by
  simp[Instr.indexAt,asIntOf,Bm hu,hc,Go.sizeOf,typeInfo,hjj,hes,add_plain]
  omega
 simp only[execOp,ho,e1,e2,AR,hr,AG,Bo]
theorem Q3(htb:H5 P tb){d x f:Nat}{t ty:TypeId}{n off sz g p:Nat}{z:List V}{fs:List (Nat×Nat)}(ht:tb t=some (.st n z fs))(hf:fs[f]? =some (off,sz))(hx:T x=some (.pointer (some ⟨g,p,none⟩)))
  (h:MO P nt bx os (upd T d (some (.pointer (some ⟨g,p+off,none⟩)))) w K):MO P nt bx (⟨some d,.fieldAddr t (.tmp x) f,ty,none⟩::os) T w K:=by
 obtain⟨i,arr,gs,_,_,_,_,hu,hfs,hpos,_⟩:=htb _ _ ht
 have hg:∃fd,gs[f]? =some fd∧fd.offset=off∧TG P fd.type=sz:=by
  rw[<-hfs,BL]at hf
  obtain⟨fd,h1,h2⟩:=BH.1 hf
  injection h2 with h2 h3
  exact⟨fd,by simpa using h1,h2,h3⟩
 obtain⟨fd,hfd,rfl,hsz⟩:=hg
 have hp:0 < TG P fd.type:=by rw[hsz];exact hpos _ (BZ hf)
 obtain⟨j,hj,hj0⟩:∃j,P.info? fd.type=some j∧j.size≠0:=by
  unfold TG at hp
  cases hi:P.info? fd.type with
  |none=>rw[hi]at hp;simp at hp
  |some j=>rw[hi]at hp;exact⟨j,rfl,by simp at hp;omega⟩
 refine S8 (λa o ha ho=>?_) h
 have e1:=LI ha hx
 have hr:(Instr.fieldAt t (.pointer (some ⟨g,p,none⟩)) f).run P w=.ok (.pointer (some ⟨g,p+fd.offset,none⟩)) w:=by
  simp[Instr.fieldAt,Bm hu,hfd,Instr.sureAddr,fieldPlace,Go.sizeOf,typeInfo,hj,hj0,add_plain]
 simp only[execOp,ho,e1,AR,hr,AG,Bo]
theorem Qs(htb:H5 P tb){d x:Nat}{t ty:TypeId}{dd:TyD}{g p:Nat}{u:Value}(ht:tb t=some dd)(hag:dd.VD=false)(hx:T x=some (.pointer (some ⟨g,p,none⟩)))(hc:w.cell? ⟨g,p,none⟩=some u)
  (h:MO P nt bx os (upd T d (some u)) w K):MO P nt bx (⟨some d,.load t (.tmp x),ty,none⟩::os) T w K:=by
 have hagr:=htb _ _ ht
 refine S8 (λa o ha ho=>?_) h
 have e1:=LI ha hx
 simp[execOp,ho,e1,Instr.loadAt,Instr.sureAddr,loadVar,hagr.isAgg,hag,hc]
theorem Sr(htb:H5 P tb){x y:Nat}{t ty:TypeId}{z:V}{g p:Nat}{u v:Value}(ht:tb t=some (.sc z))(hx:T x=some (.pointer (some ⟨g,p,none⟩)))(hy:T y=some v)(hv:v.cells= #[v])(hc:w.cell? ⟨g,p,none⟩=some u)(hf:w.frozen? ⟨g,p,none⟩=false)(h1:v.oneCell'=true)
  (h:MO P nt bx os T (w.setCell ⟨g,p,none⟩ v) K):MO P nt bx (⟨none,.store t (.tmp x) (.tmp y),ty,none⟩::os) T w K:=by
 have hagr:=htb _ _ ht
 intro ops l hl hok R hR a ha
 obtain⟨o,l',rfl,q,hl⟩:=DI.1 hl
 obtain⟨a1,b1,g1⟩:=RE q
 simp only[Bp,Ac]at hok
 have e1:=LI ha hx
 have e2:=LI ha hy
 have hr:(execOp a.eval o).run P w=.ok .skip (w.setCell ⟨g,p,none⟩ v):=by
  have hst:(store ⟨g,p,none⟩ v).run P w=.ok () (w.setCell ⟨g,p,none⟩ v):=by rw[run_store P w _ _ _ h1];simp[hc,hf]
  simp[execOp,b1,e1,e2,Instr.storeAt,Instr.sureAddr,storeVar,hagr.sizeOf,TyD.size,hv,storeCells,add_plain,hst]
 refine RP g1 (kv hr ?_)
 rw[a1]
 exact h ops l' hl hok.2 R hR _ ⟨by rw[size_put];exact ha.1,by rw[SO];exact ha.2.1,ha.2.2⟩
theorem Oe{d:Nat}{ty:TypeId}{f:FuncId}{args:Array Operand}{ts:Array TypeId}{vs:Array Value}(hb:Lf P f)(hargs:∀a,Has T nt a->args.map a.eval=vs)(hc:Calls P f vs w (λe w'=>∃u,e=.returned u∧MO P nt bx os (upd T d (some u)) w' K)):
  MO P nt bx (⟨some d,.call {callee:=.value (.func f),args:=args,argTypes:=ts},ty,none⟩::os) T w K:=by
 intro ops l hl hok R hR a ha
 obtain⟨o,l',rfl,q,hl⟩:=DI.1 hl
 obtain⟨a1,b1,g1⟩:=RE q
 simp only[Bp,Ac]at hok
 obtain⟨fn,hf,hbody,hname⟩:=hb
 have hr:(execOp a.eval o).run P w=.ok (.enter f vs) w:=by
  have e1:=hargs a ha
  have e2:a.eval (.func f)=.func (.func f) #[] #[]:=rfl
  simp only[execOp,b1,resolve,e2,Deferred.ofValue,AR,Bo,AG,invoke,callFunc,Kc,I1,GS,hf,hbody,hname]
  simp[e1]
 refine RP g1 ?_
 unfold Oper.wp
 rw[hr,Ec]
 refine hc.mono ?_
 rintro e w1 ⟨u,rfl,h⟩
 show wpList P ops R l' (a.put o.dst u) w1
 rw[a1]
 exact h ops l' hl hok.2 R hR _ (el ha (eR hok.1 a1))
theorem jY{d x:Nat}{t ty:TypeId}{us:Array Value}(hx:T x=some (.agg us))(h:MO P nt bx os (upd T d (some (.pointer (some ⟨w.heap.size,0,none⟩)))) (w.alloc (.cells us t)) K):MO P nt bx (⟨some d,.box t (.tmp x),ty,none⟩::os) T w K:=by
 refine Aaj (λa o ha ho=>?_) h
 have e1:=LI ha hx
 simp[execOp,ho,e1,Instr.box,newVar,newRow,Value.cells]
def MS(P:Program)(nt:Nat)(bx:List Nat)(l:LC)(T:TS)(w:World)(Q:Exit->TS->World->Prop):Prop:=∀c,Fe c=RT l->okC nt bx c=true->∀a,Has T nt a->c.wp P (λe a' w'=>∃T',Q e T' w'∧Has T' nt a') a w
def rT(N:TS->World->Prop)(Q:Exit->TS->World->Prop):Exit->TS->World->Prop
 |.normal,T,w=>N T w
 |e,T,w=>Q e T w
def jk(id:Nat)(Q:Exit->TS->World->Prop):Exit->TS->World->Prop
 |.exit i,T,w=>if i=id then Q .normal T w else Q (.exit i) T w
 |e,T,w=>Q e T w
variable {Q:Exit->TS->World->Prop}{x y:LC}
theorem t9{Q':Exit->TS->World->Prop}(h:MS P nt bx x T w Q)(hq:∀e T w,Q e T w->Q' e T w):MS P nt bx x T w Q':=
 λc hc hok a ha=>EQ (h c hc hok a ha) (λe a w ⟨T',h1,h2⟩=>⟨T',hq e T' w h1,h2⟩)
theorem Fh{cns:List Nat}(h:MO P nt bx os T w (Q .normal)):MS P nt bx (.rgn cns os) T w Q:=by
 intro c hc hok a ha
 cases c<;>first|cases hc|skip
 rename_i id ops' d
 simp only[Fe,RT]at hc
 split at hc
 ·cases hc
 ·rename_i hd
  simp only[LC.rgn.injEq,LY]at hc
  have:d=false:=by simpa using hd
  subst this
  exact wp_region_list (h ops' ops'.toList hc hok _ (λT' a' w' h1 h2=>⟨T',h1,h2⟩) a ha)
theorem F5(h:MS P nt bx x T w (rT (λT' w'=>MS P nt bx y T' w' Q) Q)):MS P nt bx (.seq x y) T w Q:=by
 intro c hc hok a ha
 cases c<;>first|cases hc|skip
 ·simp only[Fe,RT]at hc;split at hc<;>cases hc
 ·rename_i c1 c2
  simp only[Fe,RT,LC.seq.injEq]at hc
  simp only[okC,Ac]at hok
  refine wp_seq (EQ (h c1 hc.1 hok.1 a ha) ?_)
  rintro(_|id|l|_|c|_) a' w' ⟨T',h1,h2⟩
  ·exact h1 c2 hc.2 hok.2 a' h2
  all_goals exact⟨T',h1,h2⟩
theorem ua(h:Q .normal T w):MS P nt bx .skip T w Q:=by
 intro c hc hok a ha
 cases c<;>first|cases hc|skip
 ·exact wp_skip ⟨T,h,ha⟩
 ·simp only[Fe,RT]at hc;split at hc<;>cases hc
theorem t7{id:Nat}(h:Q (.exit id) T w):MS P nt bx (.exit id) T w Q:=by
 intro c hc hok a ha
 cases c<;>first|(cases hc;done)|skip
 ·simp only[Fe,RT]at hc;split at hc<;>cases hc
 ·simp only[Fe,RT,LC.exit.injEq]at hc;subst hc;exact wp_exit ⟨T,h,ha⟩
theorem eM(h:Q .ret T w):MS P nt bx .ret T w Q:=by
 intro c hc hok a ha
 cases c<;>first|(cases hc;done)|skip
 ·simp only[Fe,RT]at hc;split at hc<;>cases hc
 ·exact wp_ret ⟨T,h,ha⟩
theorem p6{id:Nat}(h:MS P nt bx x T w (jk id Q)):MS P nt bx (.blk id x) T w Q:=by
 intro c hc hok a ha
 cases c<;>first|(cases hc;done)|skip
 ·simp only[Fe,RT]at hc;split at hc<;>cases hc
 ·simp only[Fe,RT,LC.blk.injEq]at hc
  obtain⟨rfl,hc⟩:=hc
  refine wp_block (EQ (h _ hc hok a ha) ?_)
  rintro(_|i|l|_|c|_) a' w' ⟨T',h1,h2⟩
  ·exact⟨T',h1,h2⟩
  ·simp only[jk]at h1
   simp only[Exit.inBlock]
   split
   ·rename_i e;rw[AH e]at h1;exact⟨T',h1,h2⟩
   ·rename_i e;rw[AE e]at h1;exact⟨T',h1,h2⟩
  all_goals exact⟨T',h1,h2⟩
theorem t6{t:Nat}{b:Bool}(hb:T t=some (.bool b))(h1:b=true->MS P nt bx x T w Q)(h2:b=false->MS P nt bx y T w Q):MS P nt bx (.cond (.tmp t) x y) T w Q:=by
 intro c hc hok a ha
 cases c<;>first|(cases hc;done)|skip
 ·simp only[Fe,RT]at hc;split at hc<;>cases hc
 ·simp only[Fe,RT,LC.cond.injEq]at hc
  obtain⟨rfl,q1,q2⟩:=hc
  simp only[okC,Ac]at hok
  exact wp_cond_split (LI ha hb) (λe=>h1 e _ q1 hok.1 a ha) (λe=>h2 e _ q2 hok.2 a ha)
theorem t8{D:List Nat}(I:Nat->TS->World->Prop)(m0:Nat)(h0:I m0 T w)(round:∀m T w,I m T w->MS P nt bx x T w (rT (λT' w'=>∃m',m' < m∧I m' T' w') Q)):MS P nt bx (.loop D x) T w Q:=by
 intro c hc hok a ha
 cases c<;>first|(cases hc;done)|skip
 ·simp only[Fe,RT]at hc;split at hc<;>cases hc
 ·rename_i c
  simp only[Fe,RT,LC.loop.injEq,LY]at hc
  intro b k cs
  have key:∀n T a w,I n T w->Has T nt a->
    ∃e a' w',(∃T',Q e T' w'∧Has T' nt a')∧Arrives P (lone (b.at a (.code c::.inLoop c::k)) cs w) b k cs e a' w':=by
   intro n
   induction n using Nat.strongRecOn with
   |_ n ih=>
    intro T a w hI ha
    obtain⟨e,a₁,w₁,⟨T₁,hq,hr₁⟩,harr⟩:=round n T w hI c hc hok a ha b (.inLoop c::k) cs
    cases e with
    |normal=>
     obtain⟨m',hlt,hI₁⟩:=hq
     obtain⟨e₂,a₂,w₂,hq₂,harr₂⟩:=ih m' hlt T₁ a₁ w₁ hI₁ hr₁
     exact⟨e₂,a₂,w₂,hq₂,.of_steps (Steps.trans harr (.one step_inLoop)) harr₂⟩
    |exit id=>exact⟨_,a₁,w₁,⟨T₁,hq,hr₁⟩,.pass (x:=.inLoop c) rfl (λ_ _=>.inl (by simp)) harr⟩
    |goto l=>exact⟨_,a₁,w₁,⟨T₁,hq,hr₁⟩,.pass (x:=.inLoop c) rfl (λ_ _=>.inl (by simp)) harr⟩
    |ret=>exact⟨_,a₁,w₁,⟨T₁,hq,hr₁⟩,.pass (x:=.inLoop c) rfl (λ_ _=>.inl (by simp)) harr⟩
    |panic ch=>exact⟨_,a₁,w₁,⟨T₁,hq,hr₁⟩,.pass (x:=.inLoop c) rfl (λ_ _=>.inl (by simp)) harr⟩
    |outgrown=>exact⟨_,a₁,w₁,⟨T₁,hq,hr₁⟩,.pass (x:=.inLoop c) rfl (λ_ _=>.inl (by simp)) harr⟩
  obtain⟨e,a',w',hq,harr⟩:=key m0 T a w h0 ha
  exact⟨e,a',w',hq,.of_steps (.one step_loop) harr⟩
def Aab(ty it bt:TypeId)(body:LC)(r:Nat):LC:=
 .seq (.rgn [] [⟨some 4,.assign (.const (.int .i64 0)),it,none⟩])
 (.seq (.seq (.rgn [] [⟨some 5,.assign (.const (.int .i64 0)),it,none⟩])
  (.blk 0 (.loop [] (.seq (.seq (.rgn [] [⟨some 6,.move (.tmp 5),it,none⟩,⟨some 7,.move (.tmp 0),ty,none⟩,⟨some 8,.call {callee:=.builtin .len,args:= #[.tmp 7],argTypes:= #[ty]},it,none⟩,⟨some 9,.binOp .lss it (.tmp 6) (.tmp 8) it,bt,none⟩]) (.cond (.tmp 9) .skip (.exit 0)))
   (.seq (.blk 1 body) (.rgn [] [⟨some 10,.move (.tmp 5),it,none⟩,⟨some 11,.binOp .add it (.tmp 10) (.const (.int .i64 1)) it,it,none⟩,⟨some 5,.assign (.tmp 11),it,none⟩]))))))
 (.seq (.rgn [] [⟨some r,.move (.tmp 1),it,none⟩,⟨some 4,.assign (.tmp r),it,none⟩]) .ret))
def vM(vs:List Value):TS:=λs=>vs[s]?
theorem We{f:FuncId}{rs:List ResultVar}{l:LC}{t:Nat}(hl:Lit P f nt bx [.tmp t] l){vs:List Value}(hn:vs.length<=nt){R:Ending->World->Prop}(h:MS P nt bx l (vM vs) w (λe T' w'=>(e=.ret∨e=.normal)∧∃u,T' t=some u∧R (.returned u) w')):Calls P f vs.toArray w R:=by
 obtain⟨⟨fn,c,h1,h2,h3,rfl,h5,h6,h7⟩,_,_⟩:=hl
 refine Ka h1 h2 ?_
 have htm:∀s,tm {tmps:=vs.toArray++Array.replicate (fn.ntmps - vs.toArray.size) undef,defers:=[]} s=(vs[s]?).getD undef:=by
  intro s
  unfold tm
  rw[Cy,J8]
  split
  ·simp
  ·rename_i hlt
   rw[HD]at hlt
   rw[Bt (by omega)]
   rw[Dz]
   split<;>rfl
 refine EQ (h c h6 h7 _ ⟨by simp;omega,rfl,λs u hu=>?_⟩) ?_
 ·rw[htm];unfold vM at hu;rw[hu];rfl
 ·rintro e a' w' ⟨T',⟨he,u,hu,hR⟩,ha⟩
  have hres:(results fn a'.tmps).run P w'=.ok u w':=by
   have e1:fn.results= #[.tmp t]:=by rw[<-Ds (xs:=fn.results),h5]
   have e2:a'.tmps[t]?.getD undef=u:=by rw[<-Cy];exact ha.2.2 t u hu
   unfold results
   rw[e1]
   simp[e2]
  rcases he with rfl|rfl
  ·exact⟨ha.2.1,u,hres,hR⟩
  ·exact⟨ha.2.1,u,hres,hR⟩
variable {St:Nat->Nat->Prop}{mt:Int->List UInt8}
def Round(P:Program)(nt:Nat)(bx:List Nat)(mt:Int->List UInt8)(e:TypeId)(es:Nat)(body:LC)(n:Nat)(cs:List V)(k:Int):Prop:=
 ∀(St:Nat->Nat->Prop) (w0:World) (bs:List Nat) (g cap j:Nat) (w:World) (T:TS),bs.Nodup->(∀g∈bs,g < w0.heap.size)->j < n->Inv P St mt e n cs k (.slice (some ⟨g,0,none⟩) n cap) bs w0 (j * es) w->T 0=some (.slice (some ⟨g,0,none⟩) n cap)->T 1=some (.int .i64 (k+EV cs (j * es)))->T 5=some (.int .i64 j)->
  MS P nt bx body T w (λe' T' w'=>e'=.normal∧T' 0=some (.slice (some ⟨g,0,none⟩) n cap)∧T' 1=some (.int .i64 (k+EV cs (j * es+es)))∧T' 5=some (.int .i64 j)∧Inv P St mt e n cs k (.slice (some ⟨g,0,none⟩) n cap) bs w0 (j * es+es) w')
theorem Q2(htb:H5 P tb){f:FuncId}{ty it bt e:TypeId}{es eb r:Nat}{ez:List V}{body:LC}(hl:Lit P f nt bx [.tmp 4] (Aab ty it bt body r))(hnt:2<=nt)(ht:tb ty=some (.sl e es eb ez)){n:Nat}{cs:List V}{k:Int}(hcs:cs.length=n * es)(hr4:r≠4)
  (hbody:Round P nt bx mt e es body n cs k):Kt P f (.own e n cs) k (.own e n (Ic mt cs k)) (k+Dr cs):=by
 obtain⟨⟨fn,c,h1,h2,h3,h4,h5,h6,h7⟩,h8,h9⟩:=hl
 refine⟨⟨fn,h1,by rw[h2];rfl,h3⟩,λw0 St v bs hO hnd hbs hG=>?_⟩
 have hnl:n<=lim:=hO.1
 obtain⟨A,cap,hv⟩:∃A cap,v=.slice A n cap:=by
  obtain⟨_,xs,bs',hx,_⟩:=hO
  rcases hx.2 with⟨h1,h0⟩|⟨g,cap,cur,h1,_⟩
  ·exact⟨none,0,by rw[h1,h0]⟩
  ·exact⟨_,_,h1⟩
 have hA:0 < n->∃g,A=some ⟨g,0,none⟩:=by
  intro hp
  obtain⟨_,xs,bs',hx,_⟩:=hO
  rcases hx.2 with⟨h1,h0⟩|⟨g,cap,cur,h1,_⟩
  ·omega
  ·rw[hv]at h1;injection h1 with h1;exact⟨g,h1⟩
 refine We (rs:=[]) (vs:=[v,.int .i64 k]) ⟨⟨fn,c,h1,h2,h3,h4,h5,h6,h7⟩,h8,h9⟩ hnt ?_
 subst hv
 refine F5 (Fh (WL (Ff ?_)))
 refine F5 (F5 (Fh (WL (Ff ?_))))
 refine p6 (t8 (λm T w=>∃j,j<=n∧m=n - j∧T 0=some (.slice A n cap)∧T 1=some (.int .i64 (k+EV cs (j * es)))∧T 5=some (.int .i64 j)∧Inv P St mt e n cs k (.slice A n cap) bs w0 (j * es) w) n ⟨0,by omega,by omega,rfl,?_,rfl,by rw[Nat.zero_mul];exact Inv.start hO hG⟩ ?_)
 ·rw[Nat.zero_mul,mG];simp;rfl
 rintro m T w ⟨j,hj,rfl,t0,t1,t5,hI⟩
 refine F5 (F5 (Fh (CT t5 (CT t0 (Aai htb ht rfl (Adh rfl rfl (Ff ?_)))))))
 refine t6 (b:=decide ((j:Int) < (n:Int))) rfl (λhd=>?_) (λhd=>?_)
 ·have hjn:j < n:=by simp at hd;omega
  obtain⟨g,rfl⟩:=hA (by omega)
  refine ua ?_
  refine F5 (p6 (t9 (hbody St w0 bs g cap j w _ hnd hbs hjn hI t0 t1 t5) ?_))
  rintro e' T' w' ⟨rfl,t0',t1',t5',hI'⟩
  refine Fh (CT t5' (VW rfl (by omega) (by unfold lim at hnl;omega) (J7 rfl (Ff ?_))))
  refine⟨n - (j+1),by omega,j+1,by omega,rfl,t0',?_,?_,?_⟩
  ·rw[Fj];exact t1'
  ·exact congrArg some (congrArg (Value.int .i64) (by simp))
  ·rw[Fj];exact hI'
 ·have hjn:j=n:=by simp at hd;omega
  subst hjn
  refine t7 ?_
  simp only[rT,jk,ED]
  refine F5 (Fh (CT t1 (J7 (upd_same _ _ _) (Ff ?_))))
  refine eM ?_
  refine⟨.inl rfl,_,rfl,?_,hI.done (by rw[hcs];exact AW _)⟩
  rw[oq cs _ (by rw[hcs];exact AW _)]
end
end Go.Proofs.YtaagdgjndpgdgaaGreatDoor
namespace Go.Proofs.YtaagdgjndpgdgaaGreatDoor
section
variable {P:Program}{St:Nat->Nat->Prop}{mt:Int->List UInt8}{e:TypeId}{n:Nat}{cs:List V}{k:Int}{bs:List Nat}{w0 w:World}{p g cap:Nat}
theorem Qh{α:Type}{f:α->List V}{es:Nat}(hf:∀x,(f x).length=es){l:List α}{j:Nat}(hj:j < l.length){m:Nat}(hm:m < es):(l.flatMap f)[j * es+m]? =(f l[j])[m]?:=by
 have h:=(jz hf (Ad hj) m).resolve_right (by omega)
 have e1:(l.flatMap f)[j * es+m]? =((l.flatMap f).drop (j * es+m))[0]?:=by rw[Cz,Cb]
 have e2:(f l[j])[m]? =((f l[j]).drop m)[0]?:=by rw[Cz,Cb]
 rw[e1,e2,h,BE (by rw[A6,hf];omega)]
theorem JT{α:Type}{f:α->List V}(h:∀x,Cm (f x)=true):∀l:List α,Cm (l.flatMap f)=true
 |[]=>rfl
 |x::l=>by rw[Au,OX,h x,JT h l];rfl
theorem ko{g g' n cap cap':Nat}(h:Value.slice (some ⟨g,0,none⟩) n cap=.slice (some ⟨g',0,none⟩) n cap'):g'=g:=by
 injection h with h1;injection h1 with h1;injection h1 with h1;exact h1.symm
theorem Inv.int'{kd:IntKind}{x:Int}(h:Inv P St mt e n cs k (.slice (some ⟨g,0,none⟩) n cap) bs w0 p w)(hd:Cm cs=true)(hn:bs.Nodup)(hp:cs[p]? =some (.int kd x)):
  ∃u,w.cell? ⟨g,p,none⟩=some u∧w.frozen? ⟨g,p,none⟩=false∧Inv P St mt e n cs k (.slice (some ⟨g,0,none⟩) n cap) bs w0 (p+1) (w.setCell ⟨g,p,none⟩ (.int kd (k+EV cs p))):=by
 obtain⟨g',cap',e1,⟨u,h1⟩,h2,h3⟩:=h.int hd hn hp
 obtain rfl:=ko e1
 exact⟨u,h1,h2,h3⟩
theorem Inv.str'{x:List UInt8}(h:Inv P St mt e n cs k (.slice (some ⟨g,0,none⟩) n cap) bs w0 p w)(hd:Cm cs=true)(hn:bs.Nodup)(hp:cs[p]? =some (.str x))(hm:(mt (k+EV cs p)).length<=maxLen):
  ∃u,w.cell? ⟨g,p,none⟩=some u∧w.frozen? ⟨g,p,none⟩=false∧Inv P St mt e n cs k (.slice (some ⟨g,0,none⟩) n cap) bs w0 (p+1) (w.setCell ⟨g,p,none⟩ (.string ⟨(mt (k+EV cs p)).toArray⟩)):=by
 obtain⟨g',cap',e1,⟨u,h1⟩,h2,h3⟩:=h.str hd hn hp hm
 obtain rfl:=ko e1
 exact⟨u,h1,h2,h3⟩
theorem Inv.own'{e':TypeId}{m:Nat}{ds:List V}{f:FuncId}(h:Inv P St mt e n cs k (.slice (some ⟨g,0,none⟩) n cap) bs w0 p w)(hd:Cm cs=true)(hn:bs.Nodup)(hbs:∀g∈bs,g < w0.heap.size)(hp:cs[p]? =some (.own e' m ds))
  (hm:Kt P f (.own e' m ds) (k+EV cs p) (.own e' m (Ic mt ds (k+EV cs p))) (k+EV cs p+Dr ds)):
  ∃u,w.cell? ⟨g,p,none⟩=some u∧Calls P f #[u,.int .i64 (k+EV cs p)] w (λe' w'=>e'=.returned (.int .i64 (k+EV cs (p+1)))∧Inv P St mt e n cs k (.slice (some ⟨g,0,none⟩) n cap) bs w0 (p+1) w'):=by
 obtain⟨g',cap',u,e1,h1,_,h2⟩:=h.own hd hn hbs hp hm
 obtain rfl:=ko e1
 refine⟨u,h1,?_⟩
 rw[jm hp]
 have e2:k+((EV cs p+SK (V.own e' m ds):Nat):Int)=k+EV cs p+Dr ds:=by rw[SK];omega
 rw[e2]
 exact h2
theorem Xs{c:V}(hp:cs[p]? =some c)(hc:SK c=1):k+(EV cs p:Int)+1=k+EV cs (p+1):=by rw[jm hp,hc];omega
theorem SL{c:V}{B:Int}(hp:cs[p]? =some c)(h:k+Dr cs<=B):k+(EV cs p:Int)+SK c<=B:=by
 have h1:=jm hp
 have h2:=sT cs (p+1)
 omega
theorem SM(h0:0<=k):0<=k+(EV cs p:Int):=by omega
theorem eL:∀(a b:List V) (k:Int),TB mt (a++b) k=TB mt a k++TB mt b (k+Fo a)
 |[],b,k=>by simp[TB,Fo]
 |c::a,b,k=>by
  cases c<;>(simp only[BT,TB,Fo,eL a b,Dg,LY];try (congr 2;omega))
theorem T3:∀(a b:List V),Fo (a++b)=Fo a+Fo b
 |[],b=>by simp[Fo]
 |c::a,b=>by cases c<;>(simp only[BT,Fo,T3 a b];try omega)
theorem Xw:∀(cs:List V) (k:Int),Cm cs=true->Cm (TB mt cs k)=true
 |[],_,_=>rfl
 |c::cs,k,h=>by
  have hd:deep c=true∧Cm cs=true:=by simpa[Cm]using h
  cases c<;>first|(simp only[TB,Cm,hd.1,Xw cs _ hd.2,Er];done)|skip
  ·rename_i e n ds
   have h2:Cm ds=true:=hd.1
   simp only[TB,Cm,deep,SN ds k h2,Xw cs _ hd.2,Er]
theorem qV{A D C:List V}{us:List Value}(h:Bb P w St (A++(D++C)) us bs)(hdA:Cm A=true)(hdC:Cm C=true)(hn:bs.Nodup):
  ∃u1 ud u2 b1,us=u1++(ud++u2)∧u1.length=A.length∧ud.length=D.length∧Bb P w St D ud b1∧b1.Nodup∧(∀x∈b1,x∈bs)∧
   (∀w' D',Bb P w' St D' ud b1->(∀x∈bs,x∉b1->w'.heap[x]? =w.heap[x]?)->Bb P w' St (A++(D'++C)) us bs):=by
 obtain⟨u1,u3,q1,q2,eu,eb,r1,r2⟩:=h.app
 obtain⟨ud,u2,b1,b2,eu2,eb2,r3,r4⟩:=r2.app
 have hnd:=hn
 rw[eb,eb2]at hnd
 have hq:=Ax.1 hnd
 have hq2:=Ax.1 hq.2.1
 refine⟨u1,ud,u2,b1,by rw[eu,eu2],r1.length,r3.length,r3,hq2.1,λx hx=>by rw[eb,eb2];simp[hx],λw' D' h1 hw=>?_⟩
 have hin:∀x,x∈q1∨x∈b2->w'.heap[x]? =w.heap[x]?:=λx hx=>hw x (by rw[eb,eb2];rcases hx with hx|hx<;>simp[hx]) (λhm=>by
  rcases hx with hx|hx
  ·exact hq.2.2 x hx x (by simp[hm]) rfl
  ·exact hq2.2.2 x hm x hx rfl)
 rw[eu,eu2,eb,eb2]
 exact Bb.join (Bb.kept _ hdA r1 (λx hx=>⟨hin x (.inl hx),λ_=>CM⟩)) (Bb.join h1 (Bb.kept _ hdC r4 (λx hx=>⟨hin x (.inr hx),λ_=>CM⟩)))
def SI(P:Program)(St:Nat->Nat->Prop)(mt:Int->List UInt8)(cs:List V)(k:Int)(us:List Value)(bs:List Nat)(w0:World)(t:TypeId)(gb p:Nat)(w:World):Prop:=
 Bb P w St (TB mt (cs.take p) k++cs.drop p) us bs∧FrB bs w0 w∧w.heap[gb]? =some (.cells us.toArray t (0,0))∧gb < w.heap.size∧w0.heap.size<=gb∧U9 w0 bs
variable {us:List Value}{t:TypeId}{gb:Nat}
theorem SI.start(h:Bb P w0 St cs us bs)(hd:Cm cs=true)(hbs:∀g∈bs,g < w0.heap.size)(hG:U9 w0 bs):SI P St mt cs k us bs w0 t w0.heap.size 0 (w0.alloc (.cells us.toArray t)):=by
 refine⟨?_,FrB.below ⟨rfl,rfl,rfl,by simp,λk hk=>Below.heap_alloc _ _ _ hk⟩,alloc_heap_new _ _,by simp,AW _,hG⟩
 simp only[Mj,TB,Dw,Bg]
 exact Bb.kept cs hd h (λg hg=>⟨Below.heap_alloc _ _ _ (hbs g hg),λ_=>CM⟩)
theorem SI.done(h:SI P St mt cs k us bs w0 t gb p w)(hp:cs.length<=p):Bb P w St (TB mt cs k) us bs∧FrB bs w0 w:=by
 have:=h.1
 rw[CB hp,BO hp,AD]at this
 exact⟨this,h.2.1⟩
theorem SI.skip{c:V}(h:SI P St mt cs k us bs w0 t gb p w)(hp:cs[p]? =some c)(hc:∀k,TB mt [c] k=[c]):SI P St mt cs k us bs w0 t gb (p+1) w:=by
 obtain⟨es,hk⟩:=Rn hp
 refine⟨?_,h.2⟩
 have hd:cs.drop p=c::cs.drop (p+1):=by
  rw[Ad hk]at hp
  injection hp with hp
  rw[<-hp,<-AO hk]
 have:=h.1
 rw[hd]at this
 rw[fB hp,eL,hc,A3,BT,Bg]
 exact this
theorem SI.part{m:Nat}(h:SI P St mt cs k us bs w0 t gb p w)(hd:Cm cs=true)(hn:bs.Nodup)(hbs:∀g∈bs,g < w0.heap.size)(hm:p+m<=cs.length):
  ∃ud b1,ud.length=m∧(∀(j:Nat) (u:Value),ud[j]? =some u->w.cell? ⟨gb,p+j,none⟩=some u)∧Bb P w St ((cs.drop p).take m) ud b1∧b1.Nodup∧(∀g∈b1,g < w.heap.size)∧U9 w b1∧
   ∀w',Bb P w' St (TB mt ((cs.drop p).take m) (k+Fo (cs.take p))) ud b1->FrB b1 w w'->SI P St mt cs k us bs w0 t gb (p+m) w':=by
 have hsp:cs.drop p=(cs.drop p).take m++cs.drop (p+m):=by rw[<-FE,BG]
 have hdd:Cm (cs.take p)=true∧Cm (cs.drop (p+m))=true:=by
  have h1:=hd
  rw[<-BG p cs,OX]at h1
  simp only[Ac]at h1
  have h2:=h1.2
  rw[hsp,OX]at h2
  simp only[Ac]at h2
  exact⟨h1.1,h2.2⟩
 have h0:=h.1
 rw[hsp]at h0
 obtain⟨u1,ud,u2,b1,eu,l1,l2,r,nd,sub,back⟩:=qV h0 (Xw _ _ hdd.1) hdd.2 hn
 have hla:(TB mt (cs.take p) k).length=p:=by
  have:∀(a:List V) (k:Int),(TB mt a k).length=a.length:=by
   intro a
   induction a with
   |nil=>intro k;rfl
   |cons c a ih=>intro k;cases c<;>simp[TB,ih]
  rw[this,At];omega
 have hlt:∀g∈bs,g < w.heap.size:=λg hg=>Bu (hbs g hg) h.2.1.size
 refine⟨ud,b1,by rw[l2,At,A6];omega,λj u hu=>?_,r,nd,λg hg=>hlt g (sub g hg),(h.2.2.2.2.2.fr h.2.1).sub sub,λw' h1 hf=>?_⟩
 ·have hj:j < ud.length:=by
   rcases A8 j ud.length with h|h
   ·exact h
   ·rw[Bt h]at hu;cases hu
  simp only[World.cell?,h.2.2.1]
  have:us[p+j]? =some u:=by
   rw[eu,BP (by omega),l1,hla,Cv,BE hj];exact hu
  simpa using this
 ·have hgb:gb∉bs:=λhm=>by have:=hbs gb hm;have:=h.2.2.2.2.1;omega
  refine⟨?_,h.2.1.trans (hf.more sub),?_,Bu h.2.2.2.1 hf.size,h.2.2.2.2⟩
  ·have ht:cs.take (p+m)=cs.take p++(cs.drop p).take m:=List.take_add
   rw[ht,eL,A3]
   exact back w' _ h1 (λx hx hnx=>hf.block x (hlt x hx) hnx)
  ·rw[hf.block gb h.2.2.2.1 (λhm=>hgb (sub gb hm))];exact h.2.2.1
theorem SI.own{e':TypeId}{m:Nat}{ds:List V}{f:FuncId}(h:SI P St mt cs k us bs w0 t gb p w)(hd:Cm cs=true)(hn:bs.Nodup)(hbs:∀g∈bs,g < w0.heap.size)(hp:cs[p]? =some (.own e' m ds))
  (hm:Kt P f (.own e' m ds) (k+Fo (cs.take p)) (.own e' m (Ic mt ds (k+Fo (cs.take p)))) (k+Fo (cs.take p)+Dr ds)):
  ∃u,w.cell? ⟨gb,p,none⟩=some u∧Calls P f #[u,.int .i64 (k+Fo (cs.take p))] w (λe' w'=>e'=.returned (.int .i64 (k+Fo (cs.take (p+1))))∧SI P St mt cs k us bs w0 t gb (p+1) w'):=by
 obtain⟨_,hk⟩:=Rn hp
 obtain⟨ud,b1,l,hc,r,nd,hlt,hG,back⟩:=h.part (m:=1) hd hn hbs (by omega)
 have hds:(cs.drop p).take 1=[.own e' m ds]:=by
  have:=hp
  rw[Ad hk]at this
  injection this with this
  rw[AO hk,this];rfl
 rw[hds]at r back
 obtain⟨u,us',q1,q2,e1,e2,hcl,ho,hr⟩:=r
 obtain⟨rfl,rfl⟩:=hr
 subst e1 e2
 rw[AD]at nd hlt hG back
 refine⟨u,by simpa using hc 0 u rfl,(hm.2 w St u q1 ho nd hlt hG).mono ?_⟩
 rintro e'' w' ⟨h1,h2,h3⟩
 refine⟨?_,back w' ⟨u,[],q1,[],rfl,by simp,rfl,h2,rfl,rfl⟩ h3⟩
 rw[h1,fB hp,T3]
 congr 2
 simp only[Fo];omega
theorem SI.agg{m:Nat}{ds:List V}{f:FuncId}(h:SI P St mt cs k us bs w0 t gb p w)(hd:Cm cs=true)(hn:bs.Nodup)(hbs:∀g∈bs,g < w0.heap.size)(hpm:p+m<=cs.length)(hds:(cs.drop p).take m=ds)
  (hm:Kt P f (.agg ds) (k+Fo (cs.take p)) (.agg (TB mt ds (k+Fo (cs.take p)))) (k+Fo (cs.take p)+Fo ds)):
  ∃ud:List Value,ud.length=m∧(∀(j:Nat) (u:Value),ud[j]? =some u->w.cell? ⟨gb,p+j,none⟩=some u)∧Calls P f #[.agg ud.toArray,.int .i64 (k+Fo (cs.take p))] w (λe' w'=>e'=.returned (.int .i64 (k+Fo (cs.take (p+m))))∧SI P St mt cs k us bs w0 t gb (p+m) w'):=by
 obtain⟨ud,b1,l,hc,r,nd,hlt,hG,back⟩:=h.part (m:=m) hd hn hbs hpm
 rw[hds]at r back
 refine⟨ud,l,hc,(hm.2 w St _ b1 ⟨ud,rfl,r⟩ nd hlt hG).mono ?_⟩
 rintro e'' w' ⟨h1,⟨us',eu,h2⟩,h3⟩
 have eu':us'=ud:=by
  have h5:=congrArg Array.toList (Value.agg.inj eu)
  simpa using h5.symm
 subst eu'
 refine⟨?_,back w' h2 h3⟩
 have ht:cs.take (p+m)=cs.take p++(cs.drop p).take m:=List.take_add
 rw[h1,ht,T3,hds]
 congr 2
 omega
end
end Go.Proofs.YtaagdgjndpgdgaaGreatDoor
namespace Go.Proofs.YtaagdgjndpgdgaaGreatDoor
def mB:Int:=9223372036854775000
def Zq{α:Type}(cnt:α->Nat)(mk:α->Int->α):List α->Int->List α
 |[],_=>[]
 |x::l,k=>mk x k::Zq cnt mk l (k+(cnt x:Int))
def JB{α:Type}(cnt:α->Nat):List α->Nat
 |[]=>0
 |x::l=>cnt x+JB cnt l
theorem O9{α:Type}{cnt:α->Nat}{mk:α->Int->α}:∀(l:List α) (k:Int),(Zq cnt mk l k).length=l.length
 |[],_=>rfl
 |x::l,k=>by rw[Zq,Az,Az,O9 l]
section
variable {mt:Int->List UInt8}
theorem U2{α:Type}{f:α->List V}{cnt:α->Nat}{mk:α->Int->α}(h1:∀x k,Ic mt (f x) k=f (mk x k))(h2:∀x,Dr (f x)=cnt x):∀(l:List α) (k:Int),Ic mt (l.flatMap f) k=(Zq cnt mk l k).flatMap f
 |[],_=>rfl
 |x::l,k=>by rw[Au,aX,h1,h2,U2 h1 h2 l,Zq,Au]
theorem QJ{α:Type}{f:α->List V}{cnt:α->Nat}(h2:∀x,Dr (f x)=cnt x):∀(l:List α),Dr (l.flatMap f)=JB cnt l
 |[]=>rfl
 |x::l=>by rw[Au,UN,h2,QJ h2 l,JB]
theorem jW{α:Type}{f:α->List V}{cnt:α->Nat}{mk:α->Int->α}{e:TypeId}(h1:∀x k,Ic mt (f x) k=f (mk x k))(h2:∀x,Dr (f x)=cnt x)(l:List α)(k:Int):mkV mt (.own e l.length (l.flatMap f)) k=.own e (Zq cnt mk l k).length ((Zq cnt mk l k).flatMap f):=by
 rw[mkV,U2 h1 h2,O9]
theorem UO{α:Type}{f:α->List V}{cnt:α->Nat}{e:TypeId}{n:Nat}(h2:∀x,Dr (f x)=cnt x)(l:List α):SK (.own e n (l.flatMap f))=JB cnt l:=by rw[SK,QJ h2]
theorem mkc{c c':V}{cs cs':List V}{k:Int}{n:Nat}(h1:mkV mt c k=c')(hn:SK c=n)(h2:Ic mt cs (k+(n:Int))=cs'):Ic mt (c::cs) k=c'::cs':=by rw[Ic,h1,hn,h2]
theorem gd{c:V}{cs:List V}{n m:Nat}(hn:SK c=n)(h2:Dr cs=m):Dr (c::cs)=n+m:=by rw[Dr,hn,h2]
theorem mka{c:V}{cs cs':List V}{k:Int}(h1:∀r k,TB mt (c::r) k=c::TB mt r k)(h2:TB mt cs k=cs'):TB mt (c::cs) k=c::cs':=by rw[h1,h2]
theorem mY{α:Type}{f:α->List V}{cnt:α->Nat}{mk:α->Int->α}{e:TypeId}(h1:∀x k,Ic mt (f x) k=f (mk x k))(h2:∀x,Dr (f x)=cnt x)(l:List α){cs cs':List V}{k:Int}(h3:TB mt cs (k+(JB cnt l:Int))=cs'):
  TB mt (.own e l.length (l.flatMap f)::cs) k=.own e (Zq cnt mk l k).length ((Zq cnt mk l k).flatMap f)::cs':=by rw[TB,U2 h1 h2,QJ h2,O9,h3]
theorem wU{c:V}{cs:List V}{m:Nat}(h1:∀r,Fo (c::r)=Fo r)(h2:Fo cs=m):Fo (c::cs)=m:=by rw[h1,h2]
theorem cw{α:Type}{f:α->List V}{cnt:α->Nat}{e:TypeId}{n:Nat}(h2:∀x,Dr (f x)=cnt x)(l:List α){cs:List V}{m:Nat}(h3:Fo cs=m):Fo (.own e n (l.flatMap f)::cs)=JB cnt l+m:=by rw[Fo,QJ h2,h3]
theorem dpc{c:V}{cs:List V}(h1:deep c=true)(h2:Cm cs=true):Cm (c::cs)=true:=by rw[Cm,h1,h2];rfl
theorem dpo{α:Type}{f:α->List V}(h:∀x,Cm (f x)=true){e:TypeId}{n:Nat}(l:List α):deep (.own e n (l.flatMap f))=true:=JT h l
theorem AaZ{k:Int}{n:Nat}(h:n=0):(some (Value.int .i64 k))=some (.int .i64 (k+(n:Int))):=by subst h;simp
theorem sS{cs:List V}(p m:Nat):Fo (cs.take p)+Fo ((cs.drop p).take m)<=Fo cs:=by
 have h1:=T3 (cs.take p) (cs.drop p)
 rw[BG]at h1
 have h2:=T3 ((cs.drop p).take m) ((cs.drop p).drop m)
 rw[BG]at h2
 omega
theorem UM{cs:List V}{k B:Int}{p:Nat}{e:TypeId}{n:Nat}{ds:List V}(hp:cs[p]? =some (.own e n ds))(h:k+Fo cs<=B):k+(Fo (cs.take p):Int)+Dr ds<=B:=by
 have h1:=sS (cs:=cs) p 1
 obtain⟨_,hk⟩:=Rn hp
 have h2:(cs.drop p).take 1=[.own e n ds]:=by
  rw[Ad hk]at hp
  injection hp with hp
  rw[AO hk,hp];rfl
 rw[h2]at h1
 simp only[Fo]at h1
 omega
end
section
variable {P:Program}{nt:Nat}{bx:List Nat}{T:TS}
theorem args1{s:Nat}{u:Value}(hs:T s=some u):∀a,Has T nt a->(#[Operand.tmp s].map a.eval)= #[u]:=λa ha=>by simp[LI ha hs]
theorem args2{s t:Nat}{u v:Value}(hs:T s=some u)(ht:T t=some v):∀a,Has T nt a->(#[Operand.tmp s,Operand.tmp t].map a.eval)= #[u,v]:=λa ha=>by simp[LI ha hs,LI ha ht]
theorem O8{f:FuncId}{rs:List ResultVar}{l:LC}(hl:Lit P f nt bx rs l):Lf P f:=by
 obtain⟨⟨fn,c,h1,h2,h3,_⟩,_⟩:=hl
 exact⟨fn,h1,by rw[h2];rfl,h3⟩
theorem nJ{f:FuncId}{k:Int}{r:List UInt8}(hs:Aw P f [.int .i64 k] (.str r)){w:World}{bs:List Nat}(hG:U9 w bs):Calls P f #[.int .i64 k] w (λe w'=>e=.returned (.string ⟨r.toArray⟩)∧Below w.heap.size w w'):=by
 refine(hs.2 w (λb _=>b < w.heap.size∧b∉bs) [.int .i64 k] (λ_ _ h=>h.1) hG ⟨_,_,rfl,rfl,rfl⟩).mono ?_
 rintro e w' ⟨v,bs,St',rfl,hb,_,_,ho,_⟩
 exact⟨congrArg Ending.returned ho.2.1,hb⟩
end
end Go.Proofs.YtaagdgjndpgdgaaGreatDoor
namespace Go.Proofs.YtaagdgjndpgdgaaGreatDoor
def sfL(s:Nat):List (Nat×V)->Prop
 |[]=>True
 |(q,c)::L=>(q=s∨I5 c=true)∧sfL s L
theorem sfn{s:Nat}:sfL s []:=trivial
theorem Vn{s q:Nat}{c:V}{L:List (Nat×V)}(h:I5 c=true)(k:sfL s L):sfL s ((q,c)::L):=⟨.inr h,k⟩
theorem sfs{s:Nat}{c:V}{L:List (Nat×V)}(k:sfL s L):sfL s ((s,c)::L):=⟨.inl rfl,k⟩
theorem iS{s:Nat}:∀{L:List (Nat×V)},sfL s L->∀q,q≠s->I5 (Ct L q)=true
 |[],_,q,_=>rfl
 |(r,c)::L,⟨h1,h2⟩,q,hq=>by
  by_cases e:q=r
  ·subst e
   rw[show Ct ((q,c)::L) q=c from by simp[Ct,upd_same]]
   rcases h1 with h1|h1
   ·exact absurd h1 hq
   ·exact h1
  ·rw[show Ct ((r,c)::L) q=Ct L q from by simp[Ct,upd_ne _ _ e]]
   exact iS h2 q hq
theorem scn:([]:List V).all PC=true:=rfl
theorem scc{c:V}{cs:List V}(h:PC c=true)(k:cs.all PC=true):(c::cs).all PC=true:=by rw[Bp,h,k];rfl
theorem bB{α:Type}{f:α->List V}(h:∀x,Cm (f x)=true){e:TypeId}{n:Nat}(l:List α):PC (.own e n (l.flatMap f))=true:=by
 unfold PC;rw[Oq];exact YF (JT h l)
theorem ct:∀{a b:List V},Gu (a++b)=(Gu a&&Gu b)
 |[],b=>by simp[Gu]
 |c::a,b=>by rw[BT,Gu,Gu,ct (a:=a),Bool.and_assoc]
theorem OU{α:Type}{f:α->List V}(h:∀x,Gu (f x)=true):∀l:List α,Gu (l.flatMap f)=true
 |[]=>rfl
 |x::l=>by rw[Au,ct,h x,OU h l];rfl
theorem sca{α:Type}{f:α->List V}(h:∀x,Gu (f x)=true){n:Nat}(l:List α):PC (.arg n (l.flatMap f))=true:=by
 unfold PC;rw[Oq];exact OU h l
theorem adc{c:V}{cs:List V}(h1:LF c=true)(h2:Gu cs=true):Gu (c::cs)=true:=by rw[Gu,h1,h2];rfl
theorem ada{α:Type}{f:α->List V}(h:∀x,Gu (f x)=true){n:Nat}(l:List α):LF (.arg n (l.flatMap f))=true:=OU h l
mutual
def upV:V->V
 |.dat n cs=>.arg n (upL cs)
 |.agg cs=>.agg (upL cs)
 |.int k n=>.int k n
 |.bool b=>.bool b
 |.str s=>.str s
 |_=>.undef
def upL:List V->List V
 |[]=>[]
 |c::cs=>upV c::upL cs
end
theorem vp{cs:List V}(h:cs=[]):upL cs=[]:=by subst h;rfl
mutual
def plD:V->Bool
 |.dat _ cs=>YX cs
 |.int _ _=>true
 |.bool _=>true
 |.str _=>true
 |_=>false
def YX:List V->Bool
 |[]=>true
 |c::cs=>plD c&&YX cs
end
section
variable {w:World}
mutual
theorem Rd.up:∀(c:V) {v:Value},plD c=true->Rd w (cm w) c v->Rd w (cm w) (upV c) v
 |.int _ _,_,_,h=>h
 |.bool _,_,_,h=>h
 |.str _,_,_,h=>h
 |.dat _ cs,_,hp,⟨hn,A,c,e,hc,h,h0⟩=>⟨hn,A,c,e,hc,λhz=>by
   obtain⟨b,off,ea,hr⟩:=h hz
   refine⟨b,off,ea,λhne o=>?_,De.up b off cs hp hr⟩
   cases cs with
   |nil=>exact absurd rfl hne
   |cons c cs=>exact hr.1.1,λhz=>vp (h0 hz)⟩
 |.own _ _ _,_,hp,_=>by cases hp
 |.arg _ _,_,hp,_=>by cases hp
 |.pin _ _ _,_,hp,_=>by cases hp
 |.agg _,_,hp,_=>by cases hp
 |.tup _,_,hp,_=>by cases hp
 |.box _,_,hp,_=>by cases hp
 |.uni _ _ _,_,hp,_=>by cases hp
 |.same _,_,hp,_=>by cases hp
 |.val _ _,_,hp,_=>by cases hp
 |.cref _ _,_,hp,_=>by cases hp
 |.adr _ _,_,hp,_=>by cases hp
 |.gh _ _,_,hp,_=>by cases hp
 |.undef,_,hp,_=>by cases hp
theorem De.up(b:Nat):∀(off:Nat) (cs:List V),YX cs=true->De w (cm w) b off cs->De w (cm w) b off (upL cs)
 |_,[],_,_=>trivial
 |off,c::cs,hp,⟨⟨h1,u,hu,hr⟩,h2⟩=>by
  have hp':plD c=true∧YX cs=true:=by simpa[YX]using hp
  exact⟨⟨h1,u,hu,Rd.up c hp'.1 hr⟩,De.up b (off+1) cs hp'.2 h2⟩
end
theorem NF.up:∀(cs:List V) {us:List Value},YX cs=true->NF w (cm w) cs us->NF w (cm w) (upL cs) us
 |[],_,_,h=>h
 |c::cs,_,hp,⟨u,us',e,h1,h2⟩=>by
  have hp':plD c=true∧YX cs=true:=by simpa[YX]using hp
  exact⟨u,us',e,Rd.up c hp'.1 h1,NF.up cs hp'.2 h2⟩
end
def Ups(d a:List V):Prop:=upL d=a∧YX d=true
theorem upn:Ups [] []:=⟨rfl,rfl⟩
theorem upc{c c':V}{cs cs':List V}(h1:upV c=c'∧plD c=true)(h2:Ups cs cs'):Ups (c::cs) (c'::cs'):=⟨by rw[upL,h1.1,h2.1],by rw[YX,h1.2,h2.2];rfl⟩
theorem vr{a b a' b':List V}(h1:Ups a a')(h2:Ups b b'):Ups (a++b) (a'++b'):=by
 obtain⟨rfl,p1⟩:=h1
 obtain⟨rfl,p2⟩:=h2
 induction a with
 |nil=>exact⟨rfl,p2⟩
 |cons c a ih=>
  have hp:plD c=true∧YX a=true:=by simpa[YX]using p1
  exact upc ⟨rfl,hp.1⟩ (ih hp.2)
theorem jc{α:Type}{f g:α->List V}(h:∀x,Ups (f x) (g x)):∀l:List α,Ups (l.flatMap f) (l.flatMap g)
 |[]=>upn
 |x::l=>by rw[Au,Au];exact vr (h x) (jc h l)
theorem ku{α:Type}{f g:α->List V}(h:∀x,Ups (f x) (g x))(l:List α):upV (.dat l.length (l.flatMap f))=.arg l.length (l.flatMap g)∧plD (.dat l.length (l.flatMap f))=true:=by
 obtain⟨h1,h2⟩:=jc h l
 exact⟨by rw[upV,h1],by rw[plD];exact h2⟩
theorem Zb(n:Int):Ups (Am n) (Am n):=⟨rfl,rfl⟩
theorem l5{w:World}{d a:List V}{v:Value}(h:Ups d a)(hr:Y5 w (cm w) (.agg d) v):Y5 w (cm w) (.agg a) v:=by
 obtain⟨us,e,hr⟩:=hr
 exact⟨us,e,by rw[<-h.1];exact hr.up _ h.2⟩
theorem uD{w:World}{d a:V}{v:Value}(h:upV d=a∧plD d=true)(hr:Y5 w (cm w) d v):Y5 w (cm w) a v:=by
 obtain⟨rfl,h2⟩:=h
 cases d<;>first|(cases h2;done)|exact Rd.up _ h2 hr
end Go.Proofs.YtaagdgjndpgdgaaGreatDoor

/-
  Texts of this proof, one after the other.
  Conditions: none.
-/
import Derived.Test.YtkonebkblgemkaaGreatW7
set_option linter.unusedVariables false
set_option linter.unusedSimpArgs false
set_option maxRecDepth 100000
set_option maxHeartbeats 4000000
noncomputable section
variable{i j m b:Nat}{x y z u v:Int}{h g:Go.Pv.Heap}{c d l:List Go.Pv.IV}{A B C:List Go.M15.Nd}{K L:Y12}{p s t:Go.Pv.IV}{F:List Go.M10.E}{D:Go.Pv.Meta}{V W:List Go.Value}{T U:Go.TypeId}{o:Bool}{X Y:Go.Value}{G:Go.M10.BSt}{O:Go.Oper}{N:Y10}{H:Array Go.Value}
section
namespace Go.M10
open Go.M15 Go.Pv
structure FV(id iv:Nat)(h h2:Heap):Prop where
 nx:h.next<=h2.next
 cl: ∀(j:Nat)(c:Y14),j<h.next->j≠id->j≠iv->h.get j= .cells c->h2.get j= .cells c
 tp: ∀(j m:Nat),j<h.next->h.get j= .tip m->NL h id j->h2.get j= .tip m/\NL h2 id j
theorem FV.of{id iv:Nat}{h h2:Heap}(f:FC id h h2):FV id iv h h2:=⟨f.nx,fun j c g h2 _ i=>f.cl j c g h2 i,f.tp⟩
theorem FV.trans{id iv g:Nat}{a b c:Heap}(x:FV id iv a b)(y:FV id g b c)(hi:g=iv\/a.next<=g):FV id iv a c:=
 ⟨BK x.nx y.nx,fun j r i l u e=>y.cl j r (AI i x.nx) l IM (x.cl j r i l u e),fun j m i e n=>by
  obtain⟨p,q⟩:=x.tp j m i e n;exact y.tp j m (AI i x.nx) p q⟩
theorem FV.set{id iv:Nat}{h h2:Heap}{a b:Y14}(x:FV id iv h h2)(l:h2.get id= .cells a)(hs:b[2]?=a[2]?):FV id iv h (h2.set id (.cells b)):=
 ⟨x.nx,fun j r i g A e=>by rw [aG g];exact x.cl j r i g A e,fun j m u e n=>by
  obtain⟨p,q⟩:=x.tp j m u e n;exact tE l (fun e n z c w=>⟨e,n,z,c,by rw [<-hs];exact w⟩) p q⟩
theorem FV.put{id iv i:Nat}{h h2:Heap}{a b:Y14}(x:FV id iv h h2)(A:h2.get i= .cells a)(g:i≠id)(hi:i=iv\/h.next<=i):FV id iv h (h2.set i (.cells b)):=
 ⟨x.nx,fun j r z g G e=>by rw [aG IM];exact x.cl j r z g G e,fun j m D e n=>by
  obtain⟨p,q⟩:=x.tp j m D e n;refine⟨by rw [aG (fun w=>by rw [w,A]at p;cases p)];exact p,fun cs u K L l w=>q cs u K L l (by rwa [aG g.symm]at w)⟩⟩
theorem FV.push{id iv:Nat}{h h2:Heap}{o:IObj}(x:FV id iv h h2)(g:id<h2.next):FV id iv h (h2.push o):=
 ⟨HB x.nx,fun j r i u z e=>by rw [aL (AI i x.nx)];exact x.cl j r i u z e,fun j m l e n=>by
  obtain⟨p,q⟩:=x.tp j m l e n;exact⟨by rw [aL (AI l x.nx)];exact p,q.push g⟩⟩
theorem FV.grow{id iv i k:Nat}{h h2:Heap}{o:IObj}(x:FV id iv h h2)(hi:h2.get i= .tip k)(l:h.next<=i)(g:h2.get id≠ .tip k):FV id iv h (h2.set i o):=
 ⟨x.nx,fun j r A D G e=>by rw [aG IM];exact x.cl j r A D G e,fun j m l e n=>by
  obtain⟨p,q⟩:=x.tp j m l e n;exact⟨by rw [aG IM];exact p,fun cs z K L u w=>q cs z K L u (by rwa [aG (fun w=>g (by rw [w];exact hi))]at w)⟩⟩
structure BW(h:Heap)(id:Nat)(s:BSt)(h2:Heap)(s2:BSt)(c w:Nat):Prop where
 bh:BH h2 id s2
 gs:GS s2
 gx:GX s.ns s2.ns s.lo s2.lo
 len:s2.ns.length<=s.ns.length+c
 pa:s2.pa=s.pa
 pf:s2.pf=s.pf
 f:s2.f=s.f
 lo:s2.lo=s.lo+w
 fv:FV id s.iv h h2
 iv:s2.iv=s.iv\/h.next<=s2.iv
theorem BE.w{h h2:Heap}{id:Nat}{s:BSt}{c:Nat}(x:BE h id s h2 A y c):BW h id s h2 {s with ns:=A,st:=y } c 0:=
 ⟨x.bh,x.gs,x.gx,x.len,rfl,rfl,rfl,IP,FV.of x.fc,.inl rfl⟩
theorem BW.refl{h:Heap}{id:Nat}{s:BSt}(b:BH h id s)(g:GS s):BW h id s h s 0 0:=(BE.refl b g).w
theorem BW.trans{h h2 g:Heap}{id:Nat}{s i j:BSt}{c d w v:Nat}(x:BW h id s h2 i c w)(y:BW h2 id i g j d v):BW h id s g j (c+d) (w+v):=
 ⟨y.bh,y.gs,x.gx.trans y.gx,by have:=x.len;have:=y.len;omega,y.pa.trans x.pa,y.pf.trans x.pf,y.f.trans x.f,by have:=x.lo;have:=y.lo;omega,
  x.fv.trans y.fv x.iv,by
   have l:=x.fv.nx;rcases y.iv with q|q
   ·rw [q];exact x.iv
   ·exact .inr (BK l q)⟩
theorem BW.le{h h2:Heap}{id:Nat}{s g:BSt}{c d w:Nat}(x:BW h id s h2 g c w)(i:c<=d):BW h id s h2 g d w:=⟨x.bh,x.gs,x.gx,BK x.len IM,x.pa,x.pf,x.f,x.lo,x.fv,x.iv⟩
theorem BW.get{h h2:Heap}{id:Nat}{s g:BSt}{c w:Nat}(x:BW h id s h2 g c w): ∃lv,h2.get id= .cells (g.cells lv):=by
 obtain⟨_,⟨lv,i,_⟩,_⟩:=x.bh;exact⟨lv,i⟩
theorem BW.var{h h2:Heap}{id:Nat}{s g:BSt}{c w:Nat}{i:Nat}{v:Int}(x:BW h id s h2 g c w)(l:SK g.ns 1 v):BW h id s (h2.set g.iv (.cells ((g.vs.set i v).map (IV.int .i64)))) {g with vs:=g.vs.set i v } c w:=by
 have j:FV id s.iv h (h2.set g.iv (.cells ((g.vs.set i v).map (IV.int .i64)))):=x.fv.put x.bh.2.2.2.2 x.bh.2.2.2.1 x.iv;exact⟨x.bh.var,⟨x.gs.gl,x.gs.av.set l,x.gs.sk,by show(g.vs.set i v).length=_;rw [FK];exact x.gs.vl,x.gs.pp,x.gs.hf,x.gs.hn,x.gs.hl⟩,x.gx,x.len,x.pa,x.pf,x.f,x.lo,j,x.iv⟩
theorem BW.st{h h2:Heap}{id:Nat}{s g:BSt}{c w:Nat}{v:Int}{lv:IV}(x:BW h id s h2 g c w)(j:SK g.ns 2 v)(i:h2.get id= .cells (g.cells lv)):
  BW h id s (h2.set id (.cells (({g with st:=v } :BSt).cells lv))) {g with st:=v } c w:=
 ⟨x.bh.st i,⟨x.gs.gl,x.gs.av,j,x.gs.vl,x.gs.pp,x.gs.hf,x.gs.hn,x.gs.hl⟩,x.gx,x.len,x.pa,x.pf,x.f,x.lo,x.fv.set i rfl,x.iv⟩
theorem BW.row{h h2:Heap}{id:Nat}{s g:BSt}{c w:Nat}{lv:IV}{j:Nat}{ws:Y12}(x:BW h id s h2 g c w)(l:h2.get id= .cells (g.cells lv))(u:j<h2.next)(i:h.next<=j)(p:h2.get j= .cells (ws.map (IV.int .i64)))
  (hid:id<h.next) (ha:AV g.ns ws) (hl:ws.length=(bM g.f).length):BW h id s (h2.set id (.cells (({g with iv:=j,vs:=ws } :BSt).cells lv))) {g with iv:=j,vs:=ws } c w:=
 ⟨x.bh.row l u IM p,⟨x.gs.gl,ha,x.gs.sk,hl,x.gs.pp,x.gs.hf,x.gs.hn,x.gs.hl⟩,x.gx,x.len,x.pa,x.pf,x.f,x.lo,x.fv.set l rfl,.inr i⟩
theorem BW.push{h h2:Heap}{id:Nat}{s g:BSt}{c w:Nat}{o:IObj}(x:BW h id s h2 g c w):BW h id s (h2.push o) g c w:=
 ⟨x.bh.push,x.gs,x.gx,x.len,x.pa,x.pf,x.f,x.lo,x.fv.push x.bh.1,x.iv⟩
theorem BH.nl{h:Heap}{id:Nat}{s:BSt}{x:IObj}(b:BH h id s):NL (h.push x) id h.next:=fun cs e n z c q u=>by
 obtain⟨j,⟨lv,l,p⟩,_⟩:=b;rw [aL j,l,IObj.cells.injEq]at q;subst q;have g:lv= .vslice (some h.next) e n z c:=by
  simpa [BSt.cells]using u
 rcases p with⟨_,i⟩| ⟨io,i,_,A,_⟩
 ·rw [i]at g;cases g
 ·rw [i]at g;simp only [IV.vslice.injEq,AC]at g;omega
theorem BH.grow{h:Heap}{id i m:Nat}{s:BSt}{x:IObj}(b:BH h id s)(hi:h.get i= .tip m)(n:NL h id i):BH (h.set i x) id s:=
 b.tip hi fun lv g io e a c j q=>n _ e a 3 c g (by rw [<-q,j];rfl)
theorem BW.grow{h h2:Heap}{id i m:Nat}{s g:BSt}{c w:Nat}{x:IObj}(y:BW h id s h2 g c w)(hi:h2.get i= .tip m)(l:h.next<=i)(n:NL h2 id i):BW h id s (h2.set i x) g c w:=by
 obtain⟨lv,j⟩:=y.get;exact⟨y.bh.grow hi n,y.gs,y.gx,y.len,y.pa,y.pf,y.f,y.lo,y.fv.grow hi l (by rw [j];exact fun q=>by cases q),y.iv⟩
theorem BW.eq{h h2:Heap}{id:Nat}{s g:BSt}{c d w v:Nat}(x:BW h id s h2 g c w)(i:c<=d)(j:w=v):BW h id s h2 g d v:=j▸x.le i
theorem BH.c4{h:Heap}{id:Nat}{s:BSt}(b:BH h id s):bA h id 4=some (.hslice s.iv 0 s.vs.length 1):=by
 obtain⟨_,⟨lv,g,_⟩,_⟩:=b;unfold bA
 rw [g];rfl
theorem BH.same{h h2:Heap}{id:Nat}{s g:BSt}(a:BH h id s)(b:BH h2 id g)(hi:g.iv=s.iv)(i:g.vs.length=s.vs.length):S6 h h2 id 4:=by
 unfold S6
 rw [a.c4,b.c4,hi,i]
structure StPre(h:Heap)(id:Nat)(s:BSt)(l:List S):Prop where
 bh:BH h id s
 gs:GS s
 wf:Ss.wf s.f l
 cnt:Ss.cnt l<=1000
 len:s.ns.length+Ss.cost l<=80000
 lo:s.lo+Ss.whl l<=10
structure AsP(h:Heap)(id jn:Nat)(s:BSt)(bs:Y13):Prop where
 bh:BH h id s
 bl:bs.length=(bM s.f).length
 bg:h.get jn= .cells (bs.map IV.bool)
 jl:jn<h.next
 ji:jn≠id
 jv:jn≠s.iv
theorem AsP.set{h:Heap}{id j:Nat}{s:BSt}{g:Y13}{i:Nat}(a:AsP h id j s g):AsP (h.set j (.cells ((g.set i true).map IV.bool))) id j s (g.set i true):=by
 obtain⟨⟨D,⟨lv,G,K⟩,L,O,T⟩,u,z,A,l,p⟩:=a;exact⟨⟨D,⟨lv,by rw [aG l.symm];exact G,K.set z⟩,L,O,by rw [aG p.symm];exact T⟩,by rw [FK];exact u,aH,A,l,p⟩
theorem Ss.cost_take{l:List S}{i:Nat}(h:i<l.length):Ss.cost (l.take (i+1))=Ss.cost (l.take i)+l[i].cost:=by
 rw [BI h,Ss.cost_append];simp only [Ss.cost];omega
theorem Ss.cost_le{l:List S}(i:Nat):Ss.cost (l.take i)<=Ss.cost l:=by
 have h:=Ss.cost_append (a:=l.take i) (b:=l.drop i);rw [DT]at h;omega
theorem Ss.whl_le{l:List S}(i:Nat):Ss.whl (l.take i)<=Ss.whl l:=by
 have h:=Ss.whl_append (a:=l.take i) (b:=l.drop i);rw [DT]at h;omega
theorem d1N{l:Y13}{i:Nat}{v:Bool}(h:i<l.length):List.take (0+(i:Int).toNat*1) (l.map IV.bool)++ [IV.bool v]++List.drop (0+(i:Int).toNat*1+1) (l.map IV.bool)=(l.set i v).map IV.bool:=by
 rw [BT,AE,AO,<-List.map_take,<-List.map_drop,DO,if_pos h];simp
theorem K3{l:Y12}{i:Nat}{v:Int}(h:i<l.length):List.take (0+(i:Int).toNat*1) (l.map (IV.int .i64))++ [IV.int .i64 v]++List.drop (0+(i:Int).toNat*1+1) (l.map (IV.int .i64))=(l.set i v).map (IV.int .i64):=by
 rw [BT,AE,AO,<-List.map_take,<-List.map_drop,DO,if_pos h];simp
theorem jX.nm{f k n:Int}{nm j:Y11}{a v:E}{i g:List S}(h:jX f k nm j n a v F i g)(l:k=1\/k=6):nm∈bM f:=by
 unfold jX at h;rcases h with h|h|h|h|h|h|h
 ·exact h.2.1
 ·omega
 ·omega
 ·omega
 ·omega
 ·exact h.2.1
 ·omega
theorem mG(f:Int):2<=(bM f).length/\(bM f).length<=4:=by
 unfold bM
 split<;>simp
def d6A(h:Heap)(id:Nat)(s:BSt)(g:Heap)(j:BSt)(c:Int)(l:Nat)(u:Int)(i:Nat)(t:S):Prop:=
 BW h id s g j (t.cost-6+i) t.whl/\i<=(bM s.f).length/\SK j.ns 1 c/\SK j.ns 2 u/\(l≠id/\l≠j.iv/\l<g.next)/\∃ws:Y12,g.get l= .cells (ws.map (IV.int .i64))/\AV j.ns ws/\ws.length=(bM s.f).length
structure IfP(h:Heap)(id:Nat)(s:BSt)(g:Heap)(s2:BSt)(c:Int)(ja:Nat)(u:Int)(i:Nat)(t:S):Prop where
 p:d6A h id s g s2 c ja u i t
structure OP(n:Int)(L:Nat)(ns:Y15):Prop where
 ln: ∀m∈ns,m.op=31->m.im≠n
 lv: ∀(i:Nat)(m:Nd),ns[i]?=some m->m.op=3->16*n<=m.im->m.im<16*n+16->L<=i
theorem OP.of{n:Int}(g:GL A n):OP n A.length A:=
 ⟨fun m j o q=>by have:=g.ln m j o;omega,fun i m e o q _=>by have:=g.lv m (CR e) o;omega⟩
theorem OP.gx{n lo l:Int}(o:OP n j A)(x:GX A B lo l)(h:n<lo):OP n j B:=by
 constructor
 ·intro m p g q;obtain⟨i,hi,rfl⟩:=CT.1 p;have e:=AA hi;rcases BC i A.length with c|c
  ·obtain⟨t,rfl⟩:=x.pre;rw [BD c]at e;exact o.ln _ (CR e) g q
  ·have:=(x.nw i _ e c).2 g;omega
 ·intro i m e g u z;rcases BC i A.length with c|c
  ·obtain⟨t,rfl⟩:=x.pre;rw [BD c]at e;exact o.lv i m e g u z
  ·have:=(x.nw i _ e c).1 g;omega
structure LoS where
 s:BSt
 c:Int
 jn:Nat
 bs:Y13
 w:Y12
 jw:Nat
 jo:Nat
 vo:Y12
 a:Int
 ks:Y12
 jk:Nat
 L:Nat
 d:Nat
 lp:Int
def d1O(h:Heap)(id:Nat)(s:BSt)(g:Heap)(x:LoS)(i:Nat)(t:E):Prop:=
 BW h id s g x.s t.cost 1/\AsP g id x.jn x.s x.bs/\h.next<=x.jn/\SK x.s.ns 1 x.c/\OP s.lo x.s.ns.length x.s.ns/\i<=(bM s.f).length/\(∀q∈x.w,0<=q/\q<i)/\x.w.length<=i
structure LoP1(h:Heap)(id:Nat)(s:BSt)(g:Heap)(x:LoS)(i:Nat)(t:E):Prop where
 p:d1O h id s g x i t
def old(g:Y12)(w:Y12):Y12:=w.map fun q=>g.getD q.toNat 0
def d1P(h:Heap)(id:Nat)(s:BSt)(g:Heap)(x:LoS)(j:Nat)(t:E):Prop:=
 BW h id s g x.s (t.cost+1+j) 1/\SK x.s.ns 1 x.c/\(SK x.s.ns 2 x.a/\x.a<x.L/\x.L<=x.s.ns.length)/\OP s.lo x.L x.s.ns/\(∀q∈x.w,0<=q/\q< (bM s.f).length)/\(x.w.length<=(bM s.f).length/\j<=x.w.length)/\
 (g.get x.jo= .cells (x.vo.map (IV.int .i64))/\h.next<=x.jo/\x.jo<g.next/\x.jo≠x.s.iv)/\(AV x.s.ns x.vo/\x.vo.length=(bM s.f).length/\∀v∈x.vo,v<x.L)/\x.ks=x.a::old x.vo (x.w.take j)
structure LoP2(h:Heap)(id:Nat)(s:BSt)(g:Heap)(x:LoS)(j:Nat)(t:E):Prop where
 p:d1P h id s g x j t
def d1Q(h:Heap)(id:Nat)(s:BSt)(g:Heap)(x:LoS)(j:Nat)(t:S):Prop:=
 BW h id s g x.s (t.cost-11) (1+x.d)/\(1+x.d=t.whl)/\SK x.s.ns 1 x.c/\(SK x.s.ns 2 x.a/\x.a<x.L)/\OP s.lo x.L x.s.ns/\(∀q∈x.w,0<=q/\q< (bM s.f).length)/\(x.w.length<=(bM s.f).length/\j<=x.w.length)/\
 (g.get x.jo= .cells (x.vo.map (IV.int .i64))/\h.next<=x.jo/\x.jo<g.next/\x.jo≠x.s.iv)/\(AV x.s.ns x.vo/\x.vo.length=(bM s.f).length/\∀v∈x.vo,v<x.L)/\
 (yP x.s.ns x.ks (2::(List.replicate (x.w.length+1) 1++2::List.replicate j 1))/\(∃r,x.ks=x.a::old x.vo x.w++r))/\(g.get x.jk= .tip x.ks.length/\x.jk<g.next/\h.next<=x.jk/\NL g id x.jk)
structure LoP3(h:Heap)(id:Nat)(s:BSt)(g:Heap)(x:LoS)(j:Nat)(t:S):Prop where
 p:d1Q h id s g x j t
def d1R(h:Heap)(id:Nat)(s:BSt)(g:Heap)(x:LoS)(j:Nat)(t:S):Prop:=
 BW h id s g x.s (t.cost-8+2*j) t.whl/\SK x.s.ns 1 x.c/\(∀q∈x.w,0<=q/\q< (bM s.f).length)/\(x.w.length<=(bM s.f).length/\j<=x.w.length)/\x.jo=x.s.iv/\(SK x.s.ns 3 x.lp/\∃n,x.s.ns[x.lp.toNat]?=some n/\n.ks.length=2*x.w.length+3)
structure LoP4(h:Heap)(id:Nat)(s:BSt)(g:Heap)(x:LoS)(j:Nat)(t:S):Prop where
 p:d1R h id s g x j t
theorem U2{α:Type}{a b:List α}(h:a<+:b){i:Nat}{n:α}(q:i<a.length)(e:b[i]?=some n):a[i]?=some n:=by
 obtain⟨t,rfl⟩:=h
 rwa [BD q]at e
theorem BW.lo1{h:Heap}{id:Nat}{s:BSt}{lv:IV}(b:BH h id s)(g:GS s)(p:s.lo+1<=10)(l:h.get id= .cells (s.cells lv)):
  BW h id s (h.set id (.cells (({s with lo:=s.lo+1 } :BSt).cells lv))) {s with lo:=s.lo+1 } 0 1:=by
 have h0:=g.hl;exact⟨b.loops l,⟨⟨g.gl.ok,g.gl.wf,fun n j o=>by have:=g.gl.lv n j o;show n.im<16*(s.lo+1);omega,fun n j o=>by have:=g.gl.ln n j o;show n.im<s.lo+1;omega,g.gl.lu,g.gl.lf⟩,g.av,g.sk,g.vl,g.pp,g.hf,g.hn,by show 0<=s.lo+1/\s.lo+1<=10;omega⟩,
  ⟨DW _,by show s.lo<=s.lo+1;omega,fun i n e p=>by rw [BG p]at e;cases e⟩,AJ _,rfl,rfl,rfl,rfl,(FV.of FC.refl).set l rfl,.inl rfl⟩
theorem OP.new{n:Int}(g:GL A n)(x:GX A B (n+1) y):OP n B.length B:=by
 have o:=(OP.of g).gx x IM;refine⟨o.ln,fun i m e j p u=>?_⟩;have l:=o.lv i m e j p u;have:=(x.nw i m e l).1 j;omega
theorem BW.asg{h h2 D:Heap}{id u c w:Nat}{s z:BSt}{L A:Y13}(x:BW h id s h2 z c w)(a:AsP h2 id u z L)(b:AsP D id u z A)(f:FC u h2 D)(hj:h.next<=u):BW h id s D z c w:=by
 have K:=x.bh.1;obtain⟨lv,V⟩:=x.get;have G:=f.cl id _ K a.ji.symm V;refine⟨b.bh,x.gs,x.gx,x.len,x.pa,x.pf,x.f,x.lo,⟨BK x.fv.nx f.nx,fun j r g Z hv e=>f.cl j r (AI g x.fv.nx) IM (x.fv.cl j r g Z hv e),fun j m g e n=>?_⟩,x.iv⟩;obtain⟨p,q⟩:=x.fv.tp j m g e n;obtain⟨p2,_⟩:=f.tp j m (AI g x.fv.nx) p fun cs T X Y O l i=>by
  rw [a.bg,IObj.cells.injEq]at l;rw [<-l,BL]at i
  cases hb:L[2]? with
  |none=>rw [hb]at i;cases i
  |some y=>rw [hb]at i;cases i
 refine⟨p2,fun cs T X Y O l i=>?_⟩;rw [G,IObj.cells.injEq]at l;exact q cs T X Y O (by rw [V,l]) i
theorem AsP.push{h:Heap}{id i:Nat}{s:BSt}{g:Y13}{x:IObj}(a:AsP h id i s g):AsP (h.push x) id i s g:=
 ⟨a.bh.push,a.bl,by rw [aL a.jl];exact a.bg,BM a.jl,a.ji,a.jv⟩
theorem AsP.grow{h:Heap}{id j i m:Nat}{s:BSt}{g:Y13}{x:IObj}(a:AsP h id j s g)(hi:h.get i= .tip m)(n:NL h id i):AsP (h.set i x) id j s g:=
 ⟨a.bh.grow hi n,a.bl,by rw [aG (fun q=>by have:=a.bg;rw [q,hi]at this;cases this)];exact a.bg,a.jl,a.ji,a.jv⟩
theorem NL.set{h:Heap}{id i j:Nat}{x:IObj}(n:NL h id j)(hi:i≠id):NL (h.set i x) id j:=fun cs e a z c q=>n cs e a z c (by rwa [aG hi.symm]at q)
theorem BW.lput{h g G:Heap}{id c w:Nat}{s l:BSt}{im v:Int}(y:BW h id s g l c w)(p:aQ g id (l.pst []) 3 im v G)(o:OP s.lo j l.ns)(hL:j<=l.ns.length)(h0:0<=s.lo)(O:s.lo+1<=l.lo)
  (him:16*s.lo<=im/\im<16*s.lo+16) (t:Int) (ht:(if im%16=0 then(2:Int)else 1)=t) (hn:l.ns.length<100000):
  ∃ns2,BW h id s G {l with ns:=ns2 } (c+1) w/\SK ns2 t v/\OP s.lo j ns2/\l.ns<+:ns2/\FC id g G:=by
 have Z:=y.gs.hl;have h2:=y.gs.hn;have V:aR im:=by unfold aR;omega
 have D:im/16=s.lo:=IM;have A:=y.gs.gl.put (n:=⟨3,im,[]⟩) (s:=t) ⟨⟨(by decide:aR 3),V,fun k q=>by cases q⟩,(by decide:([]:Y12).length<=40)⟩ (by rw [lJ (ks:=[]) (ss:=[]) trivial];exact(b4U IM).trans ht) (by rw [<-ht];split<;>decide) (fun _=>IS)
  (fun _ i m e z=>by dsimp only;rw [D];exact o.ln m (CR e) z) (fun q=>by cases q)
 have u:=BH.put (t:=t) y.bh y.gs p ⟨A.1,A.2.1,A.2.2.1,A.2.2.2.1⟩ hn;have K:=A.2.2.2.2;generalize(cH l.ns ⟨3,im,[]⟩).1=ns2 at u K;have ly:=y.len;have lb:=u.len;refine⟨ns2,⟨u.bh,u.gs,?_,IS,y.pa,y.pf,y.f,y.lo,y.fv.trans (FV.of (iv:=l.iv) u.fc) y.iv,y.iv⟩,u.sk,?_,u.pre,u.fc⟩
 ·refine⟨y.gx.pre.trans u.pre,y.gx.le,fun i m e L=>?_⟩;rcases BC i l.ns.length with q|q
  ·exact y.gx.nw i m (U2 u.pre q e) L
  ·rw [K i m e q];exact⟨fun _=>him.1,fun q=>absurd q (by decide:(3:Int)≠31)⟩
 ·constructor
  ·intro m T z;obtain⟨i,e⟩:=List.mem_iff_getElem?.1 T;rcases BC i l.ns.length with q|q
   ·exact o.ln _ (CR (U2 u.pre q e)) z
   ·have:=K i _ e q;rw [this]at z;exact absurd z (by decide:(3:Int)≠31)
  ·intro i m e z X Y;rcases BC i l.ns.length with q|q
   ·exact o.lv i m (U2 u.pre q e) z X Y
   ·omega
theorem BW.loop{h g G:Heap}{id c w m:Nat}{s l:BSt}{v:Int}{L:Nat}{ks:Y12}(y:BW h id s g l c w)(p:aQ g id (l.pst ks) 31 s.lo v G)(o:OP s.lo L l.ns)(h0:0<=s.lo)(Z:s.lo+1<=l.lo)
  (hs:yP l.ns ks (Ym m)) (h1:1<=m) (h2:m<=16) (hk: ∀j:Nat,1<=j->j<ks.length/2->ks.getD j 0<L) (hn:l.ns.length<100000):
  ∃ns2,BW h id s G {l with ns:=ns2 } (c+1) w/\SK ns2 3 v/\(∃n,ns2[v.toNat]?=some n/\n.ks=ks)/\l.ns<+:ns2/\FC id g G:=by
 have X:=y.gs.hl;have K:=(hs.map).2.2;have z:=hs.len;have O:ks.length<=40:=by rw [z];simp [Ym];omega
 have ib:aR s.lo:=by unfold aR;omega
 have A:=y.gs.gl.put (n:=⟨31,s.lo,ks⟩) (s:=3) ⟨⟨(by decide:aR 31),ib,fun k q=>by have:=K k q;unfold aR;omega⟩,O⟩ (by rw [lJ hs];exact b4V IM h1 h2) IN (fun q=>by cases q) (fun q=>by cases q)
  (fun _=>⟨IS,fun m hm om=>o.ln m hm om,fun j a b i2 n2 e on hi=>by
   have q:=o.lv i2 n2 e on (by dsimp only at hi;omega) (by
    dsimp only at hi b;have:ks.length/2<=16:=by rw [z];simp [Ym];omega
    omega)
   have:=hk j a b;dsimp only;omega⟩)
 have V:=p.2.1;have u:=BH.put (t:=3) y.bh y.gs p ⟨A.1,A.2.1,A.2.2.1,A.2.2.2.1⟩ hn;have Y:=A.2.2.2.2;have D: ∃n,(cH l.ns ⟨31,s.lo,ks⟩).1[v.toNat]?=some n/\n.ks=ks:=by
  rw [V];show∃n,(cH l.ns ⟨31,s.lo,ks⟩).1[(cH l.ns ⟨31,s.lo,ks⟩).2.toNat]?=some n/\n.ks=ks
  rcases D5 l.ns ⟨31,s.lo,ks⟩with⟨i,e,T⟩| ⟨_,T⟩
  ·rw [T];exact⟨_,by rw [AE];exact e,rfl⟩
  ·rw [T];exact⟨_,by rw [AE,BU (AJ _),EZ];rfl,rfl⟩
 generalize(cH l.ns ⟨31,s.lo,ks⟩).1=ns2 at u Y D;have ly:=y.len;have lb:=u.len;refine⟨ns2,⟨u.bh,u.gs,?_,IS,y.pa,y.pf,y.f,y.lo,y.fv.trans (FV.of (iv:=l.iv) u.fc) y.iv,y.iv⟩,u.sk,D,u.pre,u.fc⟩;refine⟨y.gx.pre.trans u.pre,y.gx.le,fun i m e X=>?_⟩;rcases BC i l.ns.length with q|q
 ·exact y.gx.nw i m (U2 u.pre q e) X
 ·rw [Y i m e q];exact⟨fun q=>absurd q (by decide:(31:Int)≠3),fun _=>GR _⟩
theorem eK1{op im g:Int}{n:Nd}{m:Nat}(e:A[g.toNat]?=some n)(h:n.ks.length=m):eK A ⟨op,im,[g]⟩=m:=by
 unfold eK
 show(A.getD g.toNat default).ks.length=m;rw [AN,e];exact h
theorem sA{g w:Y12} :(old g w).length=w.length:=by unfold old;simp
theorem d1S{g w:Y12}(l: ∀v∈g,v<i)(p: ∀q∈w,0<=q/\q<g.length): ∀v∈old g w,v<i:=fun v h=>by
 unfold old at h;obtain⟨q,j,rfl⟩:=EI.1 h;have:=p q j;rw [AN,AA (show q.toNat<g.length by omega)];exact l _ (AG _)
theorem c3H{g w:Y12}(j:AV A g)(l: ∀q∈w,0<=q/\q<g.length):AV A (old g w):=fun v h=>by
 unfold old at h;obtain⟨q,i,rfl⟩:=EI.1 h;have:=l q i;rw [AN,AA (show q.toNat<g.length by omega)];exact j _ (AG _)
theorem vC{g w:Y12}{j k:Nat}(i:j<w.length)(l:w[j]=(k:Int))(p:k<g.length):old g (w.take (j+1))=old g (w.take j)++ [g[k]]:=by
 unfold old
 rw [BI i,DE,l];simp only [CF,FO,AE];rw [AN,AA p];rfl
theorem sB{a:Int}{g w r:Y12}{L m:Nat}(p: ∀v∈g,v<L)(u: ∀q∈w,0<=q/\q<g.length)(l:(a::old g w++r).length=2*w.length+3): ∀j:Nat,1<=j->j< (a::old g w++r).length/2->(a::old g w++r).getD j 0<L:=fun j z h2=>by
 rw [l]at h2;obtain⟨k,rfl⟩: ∃k,j=k+1:=⟨j-1,IM⟩
 have i:k< (old g w).length:=by rw [sA];omega
 rw [AN,CQ,DB,BD i,AA i];exact d1S p u _ (AG _)
theorem nQ{a v st:Int}{g w:Y12}(ka:SK A 2 a)(i:AV A g)(p: ∀q∈w,0<=q/\q<g.length)(z:SK A 1 v)(u:SK A 2 st):
  yP A (a::old g w++ [v,st]) (2::(List.replicate (w.length+1) 1++2::List.replicate 0 1)):=by
 have l:yP A (a::old g w) (2::List.replicate (old g w).length 1):=⟨⟨ka,IN⟩,(c3H i p).sks⟩;have h2:yP A [v,st] [1,2]:=⟨⟨z,IN⟩,⟨u,IN⟩,trivial⟩;have j:=l.append h2;rw [sA]at j;have e:(2::List.replicate w.length 1++ [1,2]:Y12)=2::(List.replicate (w.length+1) 1++2::List.replicate 0 1):=by
  rw [IE];simp
 rw [<-e];exact j
theorem P0{ks:Y12}{v:Int}{m j:Nat}(h:yP A ks (2::(List.replicate m 1++2::List.replicate j 1)))(i:SK A 1 v):yP A (ks++ [v]) (2::(List.replicate m 1++2::List.replicate (j+1) 1)):=by
 have g:=h.append (yP.one i IN);have e:(2::(List.replicate m 1++2::List.replicate j 1)++ [1]:Y12)=2::(List.replicate m 1++2::List.replicate (j+1) 1):=by
  rw [IE (n:=j)];simp
 rw [<-e];exact g
theorem Ca{k:Nat}{w:Y12}{j:Nat}{K:Int->Prop}(i:j<w.length)(l:w[j]=(k:Int))(g:K (k:Int)):aI .i64 (w.map (IV.int .i64)) ((j:Int).toNat*1) K:=
 bY (by rw [AE,AO,BL,AA i,l];rfl) g
theorem ldR{k:Nat}{w:Y12}{K:Int->Prop}(i:k<w.length)(g:K w[k]):aI .i64 (w.map (IV.int .i64)) (0+(k:Int).toNat*1) K:=
 bY (by rw [BT,AE,AO,BL,AA i];rfl) g
theorem c3I{n:Nat} :fQ n [IV.bool false]=(List.replicate n false).map IV.bool:=by
 induction n with
 |zero=>rfl
 |succ n ih=>rw [GQ,CF,<-ih];rfl
structure LwS where
 id:Nat
 ns:Y15
 c:IV
 d:IV
 st:Int
 vs:Y12
def LwS.pst(x:LwS)(g i:Y14):PSt:=⟨x.ns,[],.vslice none 0 2 2 g,.vslice none 0 2 9 i,x.c,x.d,.int .i64 x.st,.int .i64 0⟩
structure LW(f:Int)(k m b:Nat)(R:Y10)(g:Heap)(pa pf:Y14)(x:LwS):Prop where
 hid:x.id<g.next
 hg: ∃lv,g.get x.id= .cells ((x.pst pa pf).cells lv)/\LV g x.id lv x.ns
 nm:(k=0/\x.c= .nilslice) \/ ∃io,x.c= .vslice (some io) k k 1 (((bM f).take k).map IV.str)/\g.get io= .tip k/\io<g.next/\NL g x.id io
 vr:(m=0/\x.d= .nilslice) \/ ∃iv,x.d= .hslice iv 0 m 1/\g.get iv= .cells (x.vs.map (IV.int .i64))/\iv<g.next/\iv≠x.id
 vl:x.vs.length=m
 gl:GL x.ns 0
 av:AV x.ns x.vs
 sk:SK x.ns 2 x.st
 ln:x.ns.length<=b
 fr: ∀j,R=some j->g.get j= .tip 5/\j<g.next/\NL g x.id j
theorem Eh{f:Int}{k:Nat}(h:k< (bM f).length):((bM f).take (k+1)).map IV.str=((bM f).take k).map IV.str++ [.str (bM f)[k]]:=by
 rw [BI h,DE];rfl
theorem LV.put{g:Heap}{id:Nat}{lv:IV}{a b:Y14}(l:LV g id lv A)(i:g.get id= .cells a):LV (g.set id (.cells b)) id lv A:=l.set i
theorem LW.nm0{f:Int}{m b:Nat}{R:Y10}{g:Heap}{x:LwS}(w:LW f 0 m b R g d l x){s:Y11}(hs: ∃h:0< (bM f).length,s=(bM f)[0]){lv:IV}(O:g.get x.id= .cells ((x.pst d l).cells lv)):
  LW f 1 m b R ((g.push (.tip 1)).set x.id (.cells ((({x with c:= .vslice (some g.next) 1 1 1 [.str s] } :LwS).pst d l).cells lv))) d l {x with c:= .vslice (some g.next) 1 1 1 [.str s] } :=by
 obtain⟨h0,⟨lv',A,h2⟩,h3,G,Y,Z,h7,h8,h9,D⟩:=w;obtain⟨K,rfl⟩:=hs;have e:lv'=lv:=by
  rw [O]at A;simp only [IObj.cells.injEq,PSt.cells,LwS.pst,BS,true_and,and_true]at A;exact A.symm
 subst e;have i:(g.push (.tip 1)).get x.id= .cells ((x.pst d l).cells lv'):=(aL h0).trans O;have p:NL (g.push (.tip 1)) x.id g.next:=fun cs e a z c q u=>by
  rw [i,IObj.cells.injEq]at q;subst q;rcases h2 with⟨_,L⟩| ⟨io,L,_,l3,_⟩
  ·rw [L]at u;simp [PSt.cells]at u
  ·rw [L]at u;simp only [PSt.cells,DB,DC,AC,IV.vslice.injEq]at u;omega
 have keep: ∀{j n:Nat},(g.push (.tip 1)).get j= .tip n->NL (g.push (.tip 1)) x.id j->_:=fun{j n} ht hn=>tE (b:=(({x with c:= .vslice (some g.next) 1 1 1 [.str (bM f)[0]] } :LwS).pst d l).cells lv') i (fun e n z c q=>⟨e,n,z,c,q⟩) ht hn
 refine⟨BM h0,⟨lv',aH,(h2.push).put i⟩,.inr ⟨g.next,?_,(keep aU p).1,AQ _,(keep aU p).2⟩,?_,Y,Z,h7,h8,h9,fun j hj=>?_⟩
 ·rw [Eh K];rfl
 ·rcases G with G| ⟨iv,v1,v2,V,X⟩
  ·exact .inl G
  ·exact .inr ⟨iv,v1,(aG X).trans ((aL V).trans v2),BM V,X⟩
 ·obtain⟨r1,T,r3⟩:=D j hj;obtain⟨t1,t2⟩:=keep ((aL T).trans r1) (r3.push h0);exact⟨t1,BM T,t2⟩
theorem LW.nm1{f:Int}{k m b io:Nat}{R:Y10}{g:Heap}{u A:Y14}{x:LwS}(w:LW f k m b R g u A x)(hk:k< (bM f).length){c:Y14}(D:x.c= .vslice (some io) k k 1 c){s:Y11}(hs:s=(bM f)[k]){lv:IV}(K:g.get x.id= .cells ((x.pst u A).cells lv)):
  LW f (k+1) m b R ((g.set io (.tip (k+1))).set x.id (.cells ((({x with c:= .vslice (some io) (k+1) (k+1) 1 (c++ [.str s]) } :LwS).pst u A).cells lv))) u A {x with c:= .vslice (some io) (k+1) (k+1) 1 (c++ [.str s]) } :=by
 obtain⟨h0,⟨lv',O,h2⟩,V,X,h5,h6,h7,h8,h9,T⟩:=w;have a0:=(mG f).2;have e:lv'=lv:=by
  rw [K]at O;simp only [IObj.cells.injEq,PSt.cells,LwS.pst,BS,true_and,and_true]at O;exact O.symm
 subst e;rcases V with⟨_,V⟩| ⟨i,n1,L,n3,n4⟩
 ·rw [V]at D
  cases D
 rw [n1]at D;simp only [IV.vslice.injEq,AC,true_and]at D;obtain⟨rfl,rfl⟩:=D;have p:i≠x.id:=fun q=>by rw [q,K]at L;cases L
 have G:(g.set i (.tip (k+1))).get x.id= .cells ((x.pst u A).cells lv'):=(aG p.symm).trans K;have keep: ∀{j n:Nat},(g.set i (.tip (k+1))).get j= .tip n->NL (g.set i (.tip (k+1))) x.id j->_:=fun{j n} ht hn=>tE (b:=(({x with c:= .vslice (some i) (k+1) (k+1) 1 (((bM f).take k).map IV.str++ [.str s]) } :LwS).pst u A).cells lv') G (fun e n z c q=>⟨e,n,z,c,q⟩) ht hn
 have kk:=keep aH (n4.set p);refine⟨h0,⟨lv',aH,LV.put ?_ G⟩,.inr ⟨i,?_,kk.1,n3,kk.2⟩,?_,h5,h6,h7,h8,h9,fun j hj=>?_⟩
 ·rcases h2 with l| ⟨iL,l1,l2,l3,l4⟩
  ·exact .inl l
  ·refine .inr ⟨iL,l1,(aG fun q=>?_).trans l2,l3,l4⟩;exact n4 _ _ _ _ _ K (by rw [<-q,l1];rfl)
 ·rw [Eh hk,hs]
 ·rcases X with X| ⟨iv,v1,Z,v3,v4⟩
  ·exact .inl X
  ·exact .inr ⟨iv,v1,(aG v4).trans ((aG (fun q=>by rw [q,L]at Z;cases Z)).trans Z),v3,v4⟩
 ·obtain⟨r1,r2,r3⟩:=T j hj;have Y:j≠i:=fun q=>by
   rw [q,L,IObj.tip.injEq]at r1;omega
  obtain⟨t1,t2⟩:=keep ((aG Y).trans r1) (r3.set p);exact⟨t1,r2,t2⟩
theorem LW.pre{f:Int}{k m b:Nat}{R:Y10}{g:Heap}{x:LwS}(w:LW f k m b R g c d x){op im:Int}(i:aR op/\aR im)(j:b<=1000):bE g x.id (x.pst c d) op im 0 []:=
 ⟨w.hid,w.hg,⟨rfl,rfl⟩,⟨⟨i.1,i.2,fun k q=>by cases q⟩,(by decide:([]:Y12).length<=40)⟩,w.gl.ok,by have:=w.ln;show x.ns.length<=1000000;omega⟩
theorem LW.put{f:Int}{k m b:Nat}{R:Y10}{g h2:Heap}{x:LwS}{op im v t:Int}(w:LW f k m b R g d l x)(p:aQ g x.id (x.pst d l) op im v h2)(D:op≠3/\op≠31)(O:aR op/\aR im)(ht:bC (eK x.ns ⟨op,im,[]⟩) op im []=t)(h0:t≠0):
  ∃ns2,LW f k m (b+1) R h2 d l {x with ns:=ns2 } /\SK ns2 t v:=by
 obtain⟨⟨lv,p1,p2⟩,p3,i⟩:=p;have gp:=w.gl.put (n:=⟨op,im,[]⟩) (s:=t) ⟨⟨O.1,O.2,fun k q=>by cases q⟩,(by decide:([]:Y12).length<=40)⟩ (by rw [lJ (ks:=[]) (ss:=[]) trivial];exact ht) h0 (fun q=>absurd q D.1) (fun q=>absurd q D.1) (fun q=>absurd q D.2);obtain⟨Z,g2,L,g4,_⟩:=gp;have K:v=(cH x.ns ⟨op,im,[]⟩).2:=p3;have G:LV h2 x.id lv (cH x.ns ⟨op,im,[]⟩).1:=p2;obtain⟨u,_,n,A,h5,_,h7,h8,h9,z⟩:=w;refine⟨(cH x.ns ⟨op,im,[]⟩).1,⟨AI u i.nx,⟨lv,p1,G⟩,?_,?_,h5,Z,h7.mono L,h8.mono L,by show(cH x.ns ⟨op,im,[]⟩).1.length<=b+1;omega,fun j hj=>?_⟩,by rw [K];exact g2⟩
 ·rcases n with n| ⟨io,n1,n2,T,n4⟩
  ·exact .inl n
  ·obtain⟨a,c⟩:=i.tp _ _ T n2 n4;exact .inr ⟨io,n1,a,AI T i.nx,c⟩
 ·rcases A with A| ⟨iv,v1,v2,X,Y⟩
  ·exact .inl A
  ·exact .inr ⟨iv,v1,i.cl _ _ X Y v2,AI X i.nx,Y⟩
 ·obtain⟨r1,V,r3⟩:=z j hj;obtain⟨a,c⟩:=i.tp _ _ V r1 r3;exact⟨a,AI V i.nx,c⟩
theorem LW.vr0{f:Int}{k b:Nat}{R:Y10}{g:Heap}{i l:Y14}{x:LwS}{v:Int}(w:LW f k 0 b R g i l x)(hv:SK x.ns 1 v){lv:IV}(O:g.get x.id= .cells ((x.pst i l).cells lv)):
  LW f k 1 b R ((g.push (.cells [.int .i64 v])).set x.id (.cells ((({x with d:= .hslice g.next 0 1 1,vs:=[v] } :LwS).pst i l).cells lv))) i l {x with d:= .hslice g.next 0 1 1,vs:=[v] } :=by
 obtain⟨h0,⟨lv',A,h2⟩,G,h4,h5,X,h7,Y,Z,D⟩:=w;have e:lv'=lv:=by
  rw [O]at A;simp only [IObj.cells.injEq,PSt.cells,LwS.pst,BS,true_and,and_true]at A;exact A.symm
 subst e;have u:(g.push (.cells [.int .i64 v])).get x.id= .cells ((x.pst i l).cells lv'):=(aL h0).trans O;have keep: ∀{j n:Nat},(g.push (.cells [.int .i64 v])).get j= .tip n->NL (g.push (.cells [.int .i64 v])) x.id j->_:=fun{j n} ht hn=>tE (b:=(({x with d:= .hslice g.next 0 1 1,vs:=[v] } :LwS).pst i l).cells lv') u (fun e n z c q=>⟨e,n,z,c,q⟩) ht hn
 have p:g.next≠x.id:=DG h0;refine⟨BM h0,⟨lv',aH,(h2.push).put u⟩,?_,.inr ⟨g.next,rfl,(aG p).trans aU,AQ _,p⟩,rfl,X,fun q hq=>by rw [BO.1 hq];exact hv,Y,Z,fun j hj=>?_⟩
 ·rcases G with G| ⟨io,n1,n2,T,n4⟩
  ·exact .inl G
  ·obtain⟨K,L⟩:=keep ((aL T).trans n2) (n4.push h0);exact .inr ⟨io,n1,K,BM T,L⟩
 ·obtain⟨r1,V,r3⟩:=D j hj;obtain⟨K,L⟩:=keep ((aL V).trans r1) (r3.push h0);exact⟨K,BM V,L⟩
theorem LW.vr1{f:Int}{k m b iv:Nat}{R:Y10}{g:Heap}{l p:Y14}{x:LwS}{v:Int}(w:LW f k m b R g l p x)(hd:x.d= .hslice iv 0 m 1)(hv:SK x.ns 1 v){lv:IV}(hg:g.get x.id= .cells ((x.pst l p).cells lv)):
  g.get iv= .cells (x.vs.map (IV.int .i64))/\iv≠x.id/\LW f k (m+1) b R ((((g.set iv .dead).push (.cells (List.take (m*1) (x.vs.map (IV.int .i64))++ [.int .i64 v])))).set x.id (.cells ((({x with d:= .hslice g.next 0 (m+1) 1,vs:=x.vs++ [v] } :LwS).pst l p).cells lv))) l p {x with d:= .hslice g.next 0 (m+1) 1,vs:=x.vs++ [v] } :=by
 obtain⟨h0,⟨lv',G,h2⟩,L,O,h5,h6,h7,h8,h9,K⟩:=w;have e:lv'=lv:=by
  rw [hg]at G;simp only [IObj.cells.injEq,PSt.cells,LwS.pst,BS,true_and,and_true]at G;exact G.symm
 subst e;rcases O with⟨_,O⟩| ⟨i,v1,Z,v3,v4⟩
 ·rw [O]at hd
  cases hd
 rw [v1]at hd;simp only [IV.hslice.injEq,true_and,and_true]at hd;subst hd;have T:(g.set i .dead).get x.id= .cells ((x.pst l p).cells lv'):=(aG v4.symm).trans hg;have A:((g.set i .dead).push (.cells (List.take (m*1) (x.vs.map (IV.int .i64))++ [.int .i64 v]))).get x.id= .cells ((x.pst l p).cells lv'):=(aL (show x.id< (g.set i .dead).next from h0)).trans T;have keep: ∀{j n:Nat},g.get j= .tip n->j<g.next->NL g x.id j->_:=fun{j n} ht V hn=>tE (m:=n) (j:=j) (b:=(({x with d:= .hslice g.next 0 (m+1) 1,vs:=x.vs++ [v] } :LwS).pst l p).cells lv') A (fun e n z c q=>⟨e,n,z,c,q⟩) ((aL (show j< (g.set i .dead).next from V)).trans ((aG (fun q=>by rw [q,Z]at ht;cases ht)).trans ht)) ((hn.set v4).push h0)
 have u:g.next≠x.id:=DG h0;refine⟨Z,v4,⟨BM h0,⟨lv',aH,((h2.set Z).push).put A⟩,?_,.inr ⟨g.next,rfl,?_,AQ _,u⟩,by show(x.vs++ [v]).length=m+1;rw [AH,h5];rfl,h6,fun q D=>?_,h8,h9,fun j V=>?_⟩⟩
 ·rcases L with L| ⟨io,n1,n2,n3,n4⟩
  ·exact .inl L
  ·obtain⟨X,Y⟩:=keep n2 n3 n4;exact .inr ⟨io,n1,X,BM n3,Y⟩
 ·refine(aG u).trans (aU.trans ?_);rw [AP (by rw [BF,h5];omega),DE];rfl
 ·rcases CB.1 D with D|D
  ·exact h7 q D
  ·rw [BO.1 D];exact hv
 ·obtain⟨r1,r2,r3⟩:=K j V;obtain⟨X,Y⟩:=keep r1 r2 r3;exact⟨X,BM r2,Y⟩
theorem LW.fin{f:Int}{k b:Nat}{R:Y10}{g:Heap}{x:LwS}(w:LW f k k b R g c d x)(p:k=(bM f).length)(K:oV c d)(hf:f=0\/f=1)(Z:b<=1000):
  ∃s:BSt,s.f=f/\s.lo=0/\s.ns=x.ns/\BH g x.id s/\GS s:=by
 obtain⟨h0,⟨lv,u,h2⟩,i,j,l,A,D,G,Y,z⟩:=w;have hn:=mG f;rcases i with⟨i,_⟩| ⟨io,L,n2,n3,n4⟩
 ·omega
 rcases j with⟨j,_⟩| ⟨iv,O,T,V,X⟩
 ·omega
 refine⟨⟨c,d,f,x.ns,some io,k,iv,x.vs,x.st,0⟩,rfl,rfl,rfl,⟨h0,⟨lv,?_,h2⟩,V,X,T⟩,⟨A,D,G,by show x.vs.length=_;rw [l,p],K,hf,by show x.ns.length<=100000;omega,by show(0:Int)<=0/\(0:Int)<=10;decide⟩⟩;rw [u,LwS.pst,PSt.cells,BSt.cells,L,O,AP IM,l,p]
theorem LW.nm0'{f:Int}{k m b:Nat}{R:Y10}{g:Heap}{x:LwS}(w:LW f k m b R g d l x)(h:k=0){s:Y11}(hs: ∃h:k< (bM f).length,s=(bM f)[k]){lv:IV}(i:g.get x.id= .cells ((x.pst d l).cells lv)):
  LW f (k+1) m b R ((g.push (.tip 1)).set x.id (.cells ((({x with c:= .vslice (some g.next) 1 1 1 [.str s] } :LwS).pst d l).cells lv))) d l {x with c:= .vslice (some g.next) 1 1 1 [.str s] } :=by
 subst h;exact w.nm0 hs i
theorem LW.vr0'{f:Int}{k m b:Nat}{R:Y10}{g:Heap}{x:LwS}{v:Int}(w:LW f k m b R g c l x)(h:m=0)(j:SK x.ns 1 v){lv:IV}(i:g.get x.id= .cells ((x.pst c l).cells lv)):
  LW f k (m+1) b R ((g.push (.cells [.int .i64 v])).set x.id (.cells ((({x with d:= .hslice g.next 0 1 1,vs:=[v] } :LwS).pst c l).cells lv))) c l {x with d:= .hslice g.next 0 1 1,vs:=[v] } :=by
 subst h;exact w.vr0 j i
theorem GL.nil0:GL [] 0:=⟨fun n h=>(by cases h),fun s h=>(by cases h),fun n h=>(by cases h),fun n h=>(by cases h),fun i j n m h=>(by simp at h),fun i n h=>(by simp at h)⟩
def lw0(j:Nat):LwS:=⟨j,[],.nilslice,.nilslice,0,[]⟩
theorem LW.init{f:Int}{R:Y10}{g h2:Heap}{v:Int}(p:aQ (g.push (.cells (((lw0 g.next).pst d l).cells .nilslice))) g.next ((lw0 g.next).pst d l) 26 0 v h2)(Y: ∀j,R=some j->g.get j= .tip 5/\j<g.next):
  ∃lv ns2,h2.get g.next= .cells (((lw0 g.next).pst d l).cells lv)/\LW f 0 0 1 R (h2.set g.next (.cells (((⟨g.next,ns2,.nilslice,.nilslice,v,[]⟩:LwS).pst d l).cells lv))) d l ⟨g.next,ns2,.nilslice,.nilslice,v,[]⟩:=by
 obtain⟨⟨lv,u,Z⟩,p3,D⟩:=p;have T:=GL.nil0.put (n:=⟨26,0,[]⟩) (s:=2) ⟨⟨(by decide:aR 26),(by decide:aR 0),fun k q=>by cases q⟩,(by decide:([]:Y12).length<=40)⟩ (by rw [lJ (ks:=[]) (ss:=[]) trivial];exact a1I) IN (fun q=>by cases q) (fun q=>by cases q) (fun q=>by cases q);obtain⟨K,L,_,O,_⟩:=T;have A:v=(cH [] ⟨26,0,[]⟩).2:=p3;refine⟨lv,(cH [] ⟨26,0,[]⟩).1,u,⟨AI (AQ _) D.nx,⟨lv,aH,LV.put Z u⟩,.inl ⟨rfl,rfl⟩,.inl ⟨rfl,rfl⟩,rfl,K,(fun q i=>by cases i),by rw [A];exact L,by simpa using O,fun j V=>?_⟩⟩;obtain⟨r1,G⟩:=Y j V;have X:NL (g.push (.cells (((lw0 g.next).pst d l).cells .nilslice))) g.next j:=fun cs e n z c q i=>by
  rw [aU,IObj.cells.injEq]at q;subst q
  cases i
 obtain⟨t1,t2⟩:=D.tp j 5 (BM G) ((aL G).trans r1) X;obtain⟨u1,u2⟩:=tE (b:=((⟨g.next,(cH [] ⟨26,0,[]⟩).1,.nilslice,.nilslice,v,[]⟩:LwS).pst d l).cells lv) u (fun e n z c q=>⟨e,n,z,c,q⟩) t1 t2;exact⟨u1,AI (BM G) D.nx,u2⟩
theorem Sb{g:Heap} :bE (g.push (.cells (((lw0 g.next).pst c d).cells .nilslice))) g.next ((lw0 g.next).pst c d) 26 0 0 []:=
 ⟨AQ _,⟨.nilslice,aU,.inl ⟨rfl,rfl⟩⟩,⟨rfl,rfl⟩,⟨⟨(by decide:aR 26),(by decide:aR 0),fun k q=>by cases q⟩,(by decide:([]:Y12).length<=40)⟩,fun n h=>(by cases h),AR _⟩
structure Gr where
 ns:Y15
 lo:Int
 v:Int
 st:Int
structure GrOk(g:Gr):Prop where
 gl:GL g.ns g.lo
 lo:0<=g.lo/\g.lo<=10
 v:SK g.ns 1 g.v
 st:SK g.ns 2 g.st
 ln:g.ns.length<=2000
def gC(nm:Y11)(i:Int)(g:Gr):Y14:=[.str nm,.int .i64 i,.vslice none 0 g.ns.length 3 (g.ns.flatMap cN),.int .i64 g.v,.int .i64 g.st]
def Kv(c:Y14):Prop:= ∃g0 g1:Gr,GrOk g0/\GrOk g1/\c=gC [102] 2 g0++gC [103] 1 g1
theorem Kv.pure{c:Y14}(h:Kv c):aM c=true:=by
 obtain⟨g,i,_,_,rfl⟩:=h;simp only [aM,bI,gC,bF,cI,AT]
structure FnD where
 i:Nat
 F:IV
 jr:Nat
 gr:Gr
 nm:Y11
 pc:List (Y11)
 lc:List (Y11)
 b:List S
 ek:Int
 en:Int
 enm:Y11
 eop:Int
 eks:List E
def FnD.R(x:FnD):Y10:=if x.i=0 then none else some x.jr
def d6B(x:FnD):Prop:=(x.i=0/\x.F= .nilslice/\x.nm=[102]/\x.pc.length=2) \/ (x.i=1/\x.F= .vslice (some x.jr) 5 1 5 (gC [102] 2 x.gr)/\GrOk x.gr/\x.nm=[103]/\x.pc.length=1)
structure FnP(x:FnD):Prop where
 p:x.pc++x.lc=bM x.i
 gb:GB x.i x.b (.mk x.ek x.en x.enm x.eop x.eks)
 fr:d6B x
structure LwP(ac fc:Y14)(g:Heap)(k:Nat)(x:FnD)(y:LwS):Prop where
 fn:FnP x
 le:k<=x.pc.length
 w:LW x.i k k (1+k) x.R g ac fc y
structure LwQ(ac fc:Y14)(g:Heap)(k:Nat)(x:FnD)(y:LwS):Prop where
 fn:FnP x
 le:k<=x.lc.length
 w:LW x.i (x.pc.length+k) (x.pc.length+k) (1+(x.pc.length+k)) x.R g ac fc y
structure LwO(g:Heap)(i jr:Nat)(c:Y14):Prop where
 p:(i=1/\(∃g0,GrOk g0/\c=gC [102] 2 g0)/\g.get jr= .tip 5/\jr<g.next) \/ (i=2/\∃g0 g1,GrOk g0/\GrOk g1/\c=gC [102] 2 g0++gC [103] 1 g1)
theorem c0L{g j l:List (Y11)}(h:g++j=l){k:Nat}(i:k<g.length): ∃h:k<l.length,g[k]=l[k]:=by
 subst h;exact⟨by rw [AH];omega,(HM i).symm⟩
theorem c0M{i g l:List (Y11)}(h:i++g=l){k:Nat}(j:k<g.length): ∃h:i.length+k<l.length,g[k]=l[i.length+k]:=by
 subst h;refine⟨by rw [AH];omega,?_⟩;rw [HE IM];simp
theorem cA{g:Heap}{x:PSt}{lv:IV}{j:Nat}(h:g.get j= .cells (x.cells lv)):bA g j 4=some x.d:=by
 unfold bA
 rw [h];rfl
end Go.M10
end
section
namespace Go.M14
open Go.Pv Go.M13 Go.M15 Go.M10
theorem b4Z{c:Y14}(h:Kv c){q:Nat}(A:q<2): ∃(nm:Y11)(i:Int)(g:Gr),GrOk g/\∀j,j<5->c[q*5+j]?=(gC nm i g)[j]?:=by
 obtain⟨l,p,h0,u,rfl⟩:=h;have e: ∀nm i g,(gC nm i g).length=5:=fun _ _ _=>rfl
 match q,A with
 |0,_=>exact⟨_,_,l,h0,fun j z=>by rw [BD (by rw [e];omega),EX,BT]⟩
 |1,_=>exact⟨_,_,p,u,fun j z=>by rw [BU (by rw [e];omega),e,Nat.one_mul,Nat.add_sub_cancel_left]⟩
end Go.M14
end
end

/-
  Texts of this proof, one after the other.
  Conditions: none.
-/
import Derived.Test.YtkonebkblgemkaaGreatW6
set_option linter.unusedVariables false
set_option linter.unusedSimpArgs false
set_option maxRecDepth 100000
set_option maxHeartbeats 4000000
noncomputable section
variable{i j m b:Nat}{x y z u v:Int}{h g:Go.Pv.Heap}{c d l:List Go.Pv.IV}{A B C:List Go.M15.Nd}{K L:Y12}{p s t:Go.Pv.IV}{F:List Go.M10.E}{D:Go.Pv.Meta}{V W:List Go.Value}{T U:Go.TypeId}{o:Bool}{X Y:Go.Value}{O:Go.Oper}{N:Y10}{H:Array Go.Value}
section
namespace Go.M10
open Go.M15 Go.Pv Go.M29
theorem c0E{a b s:Y11}(h:s=a++b):List.take a.length s=a:=by subst h;exact List.take_left' rfl
theorem c0F{a b s:Y11}{c:UInt8}(h:s=a++c::b):List.drop (a.length+1) s=b:=by
 subst h;rw [show a++c::b=(a++ [c])++b by simp];exact List.drop_left' IP
theorem D3{s:Y11}{lo hi n:Int}(h:pO s lo hi=some n):kS s=some n:=by
 unfold pO at h;split at h
 ·rename_i q e;split at h
  ·rw [e];exact h
  ·cases h
 ·cases h
theorem a1E{s:Y11}{lo hi:Int} :(pO s lo hi).isSome=((kS s).isSome&& (decide ((kS s).getD 0>=lo) &&decide ((kS s).getD 0<=hi))):=by
 unfold pO
 cases kS s with
 |none=>rfl
 |some n=>
  dsimp only [Option.getD_some,Option.isSome_some]
  by_cases c:lo<=n/\n<=hi
  ·rw [if_pos c,decide_eq_true (show n>=lo from c.1),decide_eq_true c.2];rfl
  ·rw [if_neg c]
   by_cases d:n>=lo
   ·rw [decide_eq_false (fun q=>c ⟨d,q⟩),HY];rfl
   ·rw [decide_eq_false d];rfl
theorem c3B{c:UInt8}{t:Y11}{n:Int}(h:kS (c::t)=some n):c=45\/ (48<=c.toNat/\c.toNat<=57):=by
 unfold kS at h;dsimp only at h;split at h
 ·rename_i e;exact .inl e
 ·obtain⟨q,e,_⟩:=AD.1 h;unfold mD at e;split at e
  ·rename_i k;exact .inr (k.2.2.1 c BJ)
  ·cases e
theorem Xe{c:UInt8}{t:Y11}(h:c≠46):bQ (c::t)=(c::(bQ t).1,(bQ t).2.1,(bQ t).2.2):=by
 have g:(!(c==46))=true:=by simpa using h
 unfold bQ
 rw [List.dropWhile_cons,if_pos g,List.takeWhile_cons,if_pos g]
 cases t.dropWhile fun c=>!(c==46)with
 |nil=>rfl
 |cons x b=>rfl
theorem vI0{op:Int}(h:4<=op/\op<=31)(g:op≠26)(hi:nM op=false):dY op 0=true:=by
 have i: ∀k:Fin 28,((k:Nat):Int)+4≠26->nM (((k:Nat):Int)+4)=false->dY (((k:Nat):Int)+4) 0=true:=IN
 have e:(((op-4).toNat:Nat):Int)+4=op:=IM;have:=i ⟨(op-4).toNat,IM⟩;dsimp only at this;rw [e]at this;exact this g hi
theorem vI1{op n:Int}(hi:nM op=true):dY op n=(decide (n>=irL op) &&decide (n<=irH op)):=by
 unfold nM at hi;rw [decide_eq_true_eq]at hi;rcases hi with rfl|rfl|rfl|rfl|rfl|rfl<;>
 ·unfold dY pS irL irH
  rw [ER];simp
  try omega
theorem a1F{op:Int}(h:4<=op/\op<=31):(wU.map IV.str)[(op-4).toNat]?=some (.str (Cb op)):=by
 have g:(op-4).toNat<wU.length:=by rw [show wU.length=28 from rfl];omega
 rw [BL,AA g,DN];unfold Cb
 rw [if_pos h,AN,AA g,CS]
def K2(i:IV)(ks:Y12)(g:Heap)(id m:Nat)(io:Y10)(n:Nat):Prop:=(i= .nilslice/\ks=[]) \/ ∃k,i= .vslice (some k) ks.length ks.length 1 (ks.map (IV.int .i64))/\KH ks k g/\(k≠id/\k≠m/\io≠some k)/\n<=k
theorem RH.frameK{h h2:Heap}{id a m k:Nat}{s:Y11}{y:Y15}(r:RH h id s a y m N)(g:k≠id/\k≠m/\N≠some k)(hf:HF k h h2):RH h2 id s a y m N:=by
 obtain⟨⟨l,p,u⟩,z,lv,A,D⟩:=r;have T:=hf.1;refine⟨⟨IM,IM,u⟩,by rw [hf.2 m p g.2.1.symm,z],lv,by rw [hf.2 id l g.1.symm,A],?_⟩;rcases D with q| ⟨i,j,G,K,L,O⟩
 ·exact .inl q
 ·exact .inr ⟨i,j,G,by rw [hf.2 i L (fun e=>g.2.2 (by rw [j,e])),K],IM,O⟩
theorem dZ.hf{id m k:Nat}{h g i:Heap}(x:dZ id m N h g)(hf:HF k g i)(z:h.next<=k):dZ id m N h i:=
 ⟨BK x.1 hf.1,fun j l h2 p u=>by rw [hf.2 j (AI l x.1) IM,x.2 j l h2 p u]⟩
theorem K2.step{ks:Y12}{g z:Heap}{id m n:Nat}{io l:Y10}(x:K2 p ks g id m io n)(f:dZ id m io g z)(k:fD g io l):K2 p ks z id m l n:=by
 rcases x with q| ⟨i,A,⟨D,G,u⟩,j,K⟩
 ·exact .inl q
 ·exact .inr ⟨i,A,⟨D,by rw [f.2 i u j.1 j.2.1 j.2.2,G],AI u f.1⟩,⟨j.1,j.2.1,k.ne u j.2.2⟩,K⟩
theorem K2.setId{ks:Y12}{g:Heap}{id m n:Nat}{o:IObj}(x:K2 p ks g id m N n):K2 p ks (g.set id o) id m N n:=x.step dZ.setId fD.refl
theorem K2.app{ks:Y12}{g:Heap}{id m n:Nat}(x:K2 p ks g id m N n):(p= .nilslice/\ks=[]) \/ ∃k,p= .vslice (some k) ks.length ks.length 1 (ks.map (IV.int .i64))/\KH ks k g:=by
 rcases x with q| ⟨i,j,l,_⟩
 ·exact .inl q
 ·exact .inr ⟨i,j,l⟩
theorem K2.ka{ks:Y12}{g:Heap}{id m n:Nat}(x:K2 p ks g id m N n):KA p ks:=by
 rcases x with q| ⟨i,j,_⟩
 ·exact .inl q
 ·exact .inr ⟨some i,ks.length,j⟩
theorem RH.adv{h:Heap}{id a m:Nat}{s:Y11}{y:Y15}{lv:IV}(r:RH h id s a y m N)(e:h.get id= .cells [.str s,.int .i64 a,.bool false,lv,.map m])(k:Nat)(g:a+k<=1000000):RH (h.set id (.cells [.str s,.int .i64 (IntKind.i64.wrap ((a:Int)+(k:Int))),.bool false,lv,.map m])) id s (a+k) y m N:=by
 rw [AB _ IM];exact RH.setAt r e (a+k)
theorem RH.advg{h:Heap}{id a m:Nat}{s:Y11}{lv:IV}(k:Nat)(g:a+k<=1000000):(h.set id (.cells [.str s,.int .i64 (IntKind.i64.wrap ((a:Int)+(k:Int))),.bool false,lv,.map m])).get id= .cells [.str s,.int .i64 ((a+k:Nat):Int),.bool false,lv,.map m]:=by
 rw [aH,AB _ IM];rfl
theorem RH.lts{h:Heap}{id a m:Nat}{s:Y11}{y:Y15}(r:RH h id s a y m N):id<h.next/\m<h.next/\∀g,N=some g->g<h.next:=by
 obtain⟨⟨i,j,A⟩,D,lv,G,l⟩:=r;refine⟨i,j,fun g e=>?_⟩;rcases l with⟨q,_⟩| ⟨p,u,K,L,z,O⟩
 ·rw [q]at e;cases e
 ·rw [u]at e;cases e;exact z
theorem K2.new{ks:Y12}{g u:Heap}{id m n j:Nat}{q:Int}(x:K2 p ks g id m N n)(D:id<g.next/\m<g.next/\∀iL,N=some iL->iL<g.next)(K:n<=g.next)(G:KH (ks++ [q]) j u)(l:g.next<=j\/p= .vslice (some j) ks.length ks.length 1 (ks.map (IV.int .i64))):
  K2 (.vslice (some j) (ks++ [q]).length (ks++ [q]).length 1 ((ks++ [q]).map (IV.int .i64))) (ks++ [q]) u id m N n/\(j≠id/\j≠m/\N≠some j)/\n<=j:=by
 have h:(j≠id/\j≠m/\N≠some j)/\n<=j:=by
  rcases l with h|h
  ·exact⟨⟨IM,IM,fun e=>by have:=D.2.2 _ e;omega⟩,IM⟩
  ·rcases x with⟨e,_⟩| ⟨i,e,_,z,A⟩
   ·rw [e]at h;cases h
   ·rw [e]at h;simp only [IV.vslice.injEq,AC,and_true]at h;subst h;exact⟨z,A⟩
 exact⟨.inr ⟨j,rfl,G,h.1,h.2⟩,h.1,h.2⟩
theorem yN: ∀n:Nat,fQ n [IV.bool false]=(List.replicate n false).map IV.bool
 |0=>rfl
 |n+1=>by
  rw [GQ,CF,<-yN n];rfl
def Is(h:Heap)(id:Nat)(s:Y11)(a m:Nat)(io:Y10):Prop:=(id<h.next/\m<h.next/\id≠m)/\(∃lv,h.get id= .cells [.str s,.int .i64 a,.bool true,lv,.map m])/\(io≠some id/\io≠some m/\∀iL,io=some iL->iL<h.next)
theorem RH.bad{h:Heap}{id a m:Nat}{s:Y11}{y:Y15}{lv:IV}(r:RH h id s a y m N)(e:h.get id= .cells [.str s,.int .i64 a,.bool false,lv,.map m]):Is (h.set id (.cells [.str s,.int .i64 a,.bool true,lv,.map m])) id s a m N:=
 ⟨r.1,⟨lv,aH⟩,r.io_ne.1,r.io_ne.2,r.lts.2.2⟩
theorem Is.bad{h:Heap}{id a m:Nat}{s:Y11}{lv:IV}(r:Is h id s a m N):Is (h.set id (.cells [.str s,.int .i64 a,.bool true,lv,.map m])) id s a m N:=
 ⟨r.1,⟨lv,aH⟩,r.2.2⟩
theorem Is.frameK{h h2:Heap}{id a m k:Nat}{s:Y11}(r:Is h id s a m N)(z:k≠id/\k≠m/\N≠some k)(hf:HF k h h2):Is h2 id s a m N:=by
 obtain⟨⟨g,D,i⟩,⟨lv,j⟩,l,p,u⟩:=r;have G:=hf.1;exact⟨⟨IM,IM,i⟩,⟨lv,by rw [hf.2 id g z.1.symm,j]⟩,l,p,fun A e=>by have:=u A e;omega⟩
theorem Is.lts{h:Heap}{id a m:Nat}{s:Y11}(r:Is h id s a m N):id<h.next/\m<h.next/\∀iL,N=some iL->iL<h.next:=⟨r.1.1,r.1.2.1,r.2.2.2.2⟩
def RHx(h:Heap)(id:Nat)(s:Y11)(a:Nat)(y:Y15)(m:Nat)(io:Y10)(b:Bool):Prop:=if b=true then Is h id s a m io else RH h id s a y m io
theorem d1H{k:IntKind}{l:Y12}{i o:Nat}{K:Int->Prop}(h:i<l.length)(j:o=i)(g:K l[i]):aI k (l.map (IV.int k)) o K:=by
 subst j;unfold aI
 rw [BL,AA h];exact(if_pos rfl:(if k=k then K l[o]else False)=K l[o]).mpr g
theorem Xf{A B:Prop}(b:B):if false=true then A else B:=b
theorem Xg{A B:Prop}(a:A):if true=true then A else B:=a
theorem D4{op im:Int}{ks:Y12}(h:(1<=op/\op<=31)/\aR im)(g: ∀k∈ks,aR k):qR ⟨op,im,ks⟩:=⟨h.1,by unfold aR;dsimp only;omega,h.2,g⟩
structure KsAt(s:Y11)(g:Nat->Y15->Rd)(a0:Nat)(y0:Y15)(a:Nat)(y:Y15)(ks:Y12):Prop where
 eq: ∃n,s.length-a<n/\wZ s g (s.length+1) a0 y0 []=wZ s g n a y ks
 le:a<=s.length
 ge:a0<=a
 yl:y.length<=a
 ok: ∀n∈y,O5 n
 kl:ks.length<=a
 kb: ∀k∈ks,0<=k/\k< (y.length:Int)
theorem KsAt.next{s:Y11}{g:Nat->Y15->Rd}{y0:Y15}{a:Nat}{y:Y15}{ks:Y12}(h:KsAt s g j y0 a y ks)(l:nx s a 32=true){p:Nat}{i:Int}(e:g (a+1) y=(p,some (A,i)))(r:RdOk (a+1) y p A i)(D:p<=s.length)(hs:s.length<=900000):KsAt s g j y0 p A (ks++ [i]):=by
 obtain⟨n,K,q⟩:=h.eq;have z:=r.pos
 cases n with
 |zero=>omega
 |succ n=>
  replace q:=q.trans (show wZ s g (n+1) a y ks=wZ s g n p A (ks++ [i]) by rw [wZ,if_pos l,e]);have G:=r.len;have L:=h.yl;have u:=h.kl;refine⟨⟨n,IM,q⟩,D,by have:=h.ge;omega,IM,r.ok ⟨h.ok,IM,IM⟩,by rw [AH,List.length_singleton];omega,fun k u=>?_⟩;rcases CB.1 u with d|d
  ·have:=h.kb k d;have:=r.pre.length_le;omega
  ·rw [BO.1 d];exact r.ix
theorem KsAt.fail{s:Y11}{g:Nat->Y15->Rd}{y0:Y15}{a:Nat}{y:Y15}{ks:Y12}(h:KsAt s g i y0 a y ks)(j:nx s a 32=true){p:Nat}(e:g (a+1) y=(p,none)):wZ s g (s.length+1) i y0 []=(p,none):=by
 obtain⟨n,l,q⟩:=h.eq
 cases n with
 |zero=>omega
 |succ n=>
  exact q.trans (show wZ s g (n+1) a y ks=(p,none) by rw [wZ,if_pos j,e])
theorem KsAt.stop{s:Y11}{g:Nat->Y15->Rd}{y0:Y15}{a:Nat}{y:Y15}{ks:Y12}(h:KsAt s g i y0 a y ks)(j:nx s a 32=false):wZ s g (s.length+1) i y0 []=if nx s a 41=true then(a+1,some (y,ks))else(a,none):=by
 obtain⟨n,l,q⟩:=h.eq
 cases n with
 |zero=>omega
 |succ n=>
  exact q.trans (show wZ s g (n+1) a y ks=_ by rw [wZ,if_neg (by rw [j];decide)])
theorem KsAt.start{s:Y11}{g:Nat->Y15->Rd}{y0:Y15}(j:i<=s.length)(h2:y0.length<=i)(l: ∀n∈y0,O5 n):KsAt s g i y0 i y0 []:=
 ⟨⟨_,IM,rfl⟩,j,AJ _,h2,l,AR _,fun k p=>by cases p⟩
def fS(s:Y11):Y15×Int×Int:=if 20000<s.length then([],6,20000)else match kG s (s.length+1) 0 []with
 | (p,none)=>([],2,(p:Int))
 | (p,some (y,i))=>if p<s.length then([],2,(p:Int))else if(aK y).getD i.toNat 0=0 then([],1,0)else if 2000<y.length then([],6,0)else(y,0,0)
theorem U0{s:Y11}(hs:s.length<=900000){f p:Nat}{y:Y15}{i:Int}(h:kG s f 0 []=(p,some (y,i))):i=(y.length:Int)-1/\0<y.length/\y.length<=p/\p<=s.length/\(∀n∈y,O5 n):=by
 obtain⟨r,u⟩:=xF s hs f 0 [] p y i h;have g:wV ([]:Y15):=fun i n e=>by cases e
 have j:=r.len;have hi:=r.ix;rw [AY]at j;refine⟨?_,IM,IM,u,r.ok ⟨fun n l=>(by cases l),AR _,IM⟩⟩;rcases r.last g with e|e
 ·rw [e]at hi;exact absurd hi.2 (by simp;omega)
 ·exact e
def fY(h:Heap)(id:Nat)(s:Y11)(a:Nat)(y:Y15)(io:Y10):Prop:=id<h.next/\∃lv,h.get id= .cells [.str s,.int .i64 a,lv,.int .i64 0,.int .i64 0]/\LVr h id id io lv y
def rX(h:Heap)(id:Nat)(s:Y11)(p:Nat)(io:Y10):Prop:=id<h.next/\(∃(lv:IV)(a:Nat),h.get id= .cells [.str s,.int .i64 a,lv,.int .i64 2,.int .i64 p])/\(io≠some id/\∀iL,io=some iL->iL<h.next)
theorem Ed{n:Nd} : ∀(l:Y15)(i x:Nat),(∀j,j<x->l[j]?≠some n)->l[x]?=some n->iY n l i=some (i+x)
 | [],i,x,_,h=>by rw [List.getElem?_nil]at h;cases h
 |m::r,i,0,_,h=>by
  rw [DC,AC]at h;rw [iY,if_pos h.symm];rfl
 |m::r,i,x+1,hn,h=>by
  have h0:=hn 0 (CN _);rw [DC]at h0;rw [iY,if_neg (fun e=>h0 (by rw [e])),Ed r (i+1) x (fun j g=>by have:=hn (j+1) IM;rwa [DB]at this) (by rwa [DB]at h)]
  congr 1
  omega
theorem Rm{n:Nd} : ∀(l:Y15)(i:Nat),(∀j,j<l.length->l[j]?≠some n)->iY n l i=none
 | [],_,_=>rfl
 |m::r,i,hn=>by
  have h0:=hn 0 (CN _);rw [DC]at h0;rw [iY,if_neg (fun e=>h0 (by rw [e]))];exact Rm r (i+1) fun j g=>by have:=hn (j+1) (by rw [AK];omega);rwa [DB]at this
theorem Rn{y:Y15}{n:Nd}{x:Nat}(g:x<y.length)(e:y[x]=n)(i: ∀j,j<x->y[j]?≠some n):cH y n=(y,(x:Int)):=by
 unfold cH
 rw [Ed y 0 x i (by rw [AA g,e]),BT]
theorem Ro{y:Y15}{n:Nd}(g: ∀j,j<y.length->y[j]?≠some n):cH y n=(y++ [n],(y.length:Int)):=by
 unfold cH
 rw [Rm y 0 g]
def PHx(h:Heap)(id:Nat)(s:Y11)(a:Nat)(y:Y15)(io:Y10)(b:Bool):Prop:=if b=true then rX h id s a io else fY h id s a y io
theorem yO{s:Y11}{a:Nat}(h:a<s.length)(c:Int):nx s a c=((s[a].toNat:Int)==c):=by
 unfold nx
 rw [AA h]
theorem Rp{s:Y11}{a:Nat}(h:s.length<=a)(c:Int):nx s a c=false:=by
 unfold nx
 rw [BG h]
theorem c3D{s:Y11}{a:Nat}(h:nx s a 41=true):nx s a 32=false:=by
 unfold nx at h⊢;split at h
 ·rename_i b e;rw [eq_of_beq h];rfl
 ·cases h
section
variable {h:Heap} {id:Nat} {s:Y11} {a:Nat} {y:Y15} {io:Y10}
theorem fY.setAt{lv:IV}(r:fY h id s a y io)(e:h.get id= .cells [.str s,.int .i64 a,lv,.int .i64 0,.int .i64 0])(b:Nat):fY (h.set id (.cells [.str s,.int .i64 b,lv,.int .i64 0,.int .i64 0])) id s b y io:=by
 obtain⟨j,lv2,g,l⟩:=r;rw [e]at g;simp only [IObj.cells.injEq,BS,true_and,and_true]at g;subst g;refine⟨j,lv,aH,?_⟩;rcases l with q| ⟨p,u,z,A,D,i,G⟩
 ·exact .inl q
 ·exact .inr ⟨p,u,z,by rw [aG i,A],D,i,G⟩
theorem fY.adv{lv:IV}(r:fY h id s a y io)(e:h.get id= .cells [.str s,.int .i64 a,lv,.int .i64 0,.int .i64 0])(k:Nat)(g:a+k<=1000000):fY (h.set id (.cells [.str s,.int .i64 (IntKind.i64.wrap ((a:Int)+(k:Int))),lv,.int .i64 0,.int .i64 0])) id s (a+k) y io:=by
 rw [AB _ IM];exact r.setAt e (a+k)
theorem fY.lts(r:fY h id s a y io):id<h.next/\id<h.next/\∀g,io=some g->g<h.next:=by
 obtain⟨i,lv,z,j⟩:=r;refine⟨i,i,fun g e=>?_⟩;rcases j with⟨q,_⟩| ⟨l,p,A,D,u,G⟩
 ·rw [q]at e;cases e
 ·rw [p]at e;cases e;exact u
theorem fY.io_ne(r:fY h id s a y io):io≠some id:=by
 obtain⟨_,lv,_,g⟩:=r;rcases g with⟨q,_⟩| ⟨l,i,_,_,_,j,p,_⟩
 ·rw [q];simp
 ·rw [i];exact fun e=>j (by cases e;rfl)
theorem fY.fail{lv:IV}(r:fY h id s a y io)(p:Nat):rX (h.set id (.cells [.str s,.int .i64 a,lv,.int .i64 2,.int .i64 p])) id s p io:=
 ⟨r.1,⟨lv,a,aH⟩,r.io_ne,r.lts.2.2⟩
theorem fY.frameK{h2:Heap}{k:Nat}(r:fY h id s a y io)(g:k≠id/\io≠some k)(hf:HF k h h2):fY h2 id s a y io:=by
 obtain⟨l,lv,p,u⟩:=r;have K:=hf.1;refine⟨IM,lv,by rw [hf.2 id l g.1.symm,p],?_⟩;rcases u with q| ⟨i,j,z,A,D,G⟩
 ·exact .inl q
 ·exact .inr ⟨i,j,z,by rw [hf.2 i D (fun e=>g.2 (by rw [j,e])),A],IM,G⟩
theorem rX.frameK{h2:Heap}{k p:Nat}(r:rX h id s p io)(z:k≠id/\io≠some k)(hf:HF k h h2):rX h2 id s p io:=by
 obtain⟨i,⟨lv,g,j⟩,l,u⟩:=r;have D:=hf.1;exact⟨IM,⟨lv,g,by rw [hf.2 id i z.1.symm,j]⟩,l,fun A e=>by have:=u A e;omega⟩
theorem rX.lts{p:Nat}(r:rX h id s p io):id<h.next/\id<h.next/\∀iL,io=some iL->iL<h.next:=⟨r.1,r.1,r.2.2.2⟩
end
theorem fY.put_nil{h:Heap}{id a:Nat}{s:Y11}{n:Nd}{lv:IV}(g:id<h.next):fY ((h.push (.tip 3)).set id (.cells [.str s,.int .i64 a,.vslice (some h.next) 3 1 3 (cN n),.int .i64 0,.int .i64 0])) id s a [n] (some h.next):=by
 have i:h.next≠id:=IM;refine⟨BM g,_,aH,.inr ⟨h.next,rfl,?_,?_,AQ _,i,i,Nat.one_pos⟩⟩
 ·simp
 ·rw [aG i];exact aU
theorem fY.put_some{h:Heap}{id a g:Nat}{s:Y11}{y:Y15}{n:Nd}(i:id<h.next)(l:g<h.next)(j:g≠id):fY ((h.set g (.tip (y.length*3+3))).set id (.cells [.str s,.int .i64 a,.vslice (some g) (y.length*3+3) (y.length+1) 3 (y.flatMap cN++cN n),.int .i64 0,.int .i64 0])) id s a (y++ [n]) (some g):=by
 refine⟨i,_,aH,.inr ⟨g,rfl,?_,?_,l,j,j,IP⟩⟩
 ·simp [DV]
 ·rw [aG j,aH];simp [DV]
end Go.M10
end
section
namespace Go.M13
def Rq:Y12:=[0,1,-1,2,-9223372036854775808,9223372036854775807,4294967296,-2147483648,63,64]
def contains(a b n:Int):Bool:=decide (a<=n) &&decide (n<=b)
def d1J(a b c d:Int):Bool:=decide (max a c<=min b d)
end Go.M13
namespace Go.M13
theorem oU(n m:Int)(h:0<m):(n.tmod m<0/\n.tmod m+m=n%m/\0<n%m/\n%m<m) \/ (0<=n.tmod m/\n.tmod m=n%m):=by
 have i:n%m=if 0<=n\/m∣n then n.tmod m else n.tmod m+m:=by
  rw [Int.tmod_eq_emod];split<;>rename_i g
  ·omega
  ·rw [show(m.natAbs:Int)=m by omega];omega
 have h2:=CM n (show m≠0 by omega);have j:=CI n h;split at i
 ·right;omega
 ·rename_i g;have:n%m≠0:=fun e=>g (.inr (Int.dvd_of_emod_eq_zero e))
  left;omega
end Go.M13
namespace Go.M13
end Go.M13
namespace Go.M13
end Go.M13
end
section
namespace Go.M10
open Go.M15 Go.Pv
def jY(p u:Y14):Prop:= ∃(j l:Int)(g:List S)(z:E)(i:List S)(A:E),p=Kc j l/\u=fnC g z i A
def oV(z A:Y14):Prop:= ∃(j l:Int)(g:List S)(p:E)(i:List S)(u:E),PP j l g p i u/\z=Kc j l/\A=fnC g p i u
theorem oV.q(h:oV c d):jY c d:=by
 obtain⟨l,p,g,u,i,z,A,j,h2⟩:=h;exact⟨l,p,g,u,i,z,j,h2⟩
theorem jY.pure(h:jY c d):aM c=true/\aM d=true:=by
 obtain⟨j,l,g,p,i,u,rfl,rfl⟩:=h;simp only [aM,bI,Kc,fnC,bF,uS,bN,AT,and_self]
theorem bt{b:Bool}{A B:Prop}(h:b=true)(a:A):aJ b A B:=by subst h;exact a
theorem bf{b:Bool}{A B:Prop}(h:b=false)(x:B):aJ b A B:=by subst h;exact x
theorem bx{b:Bool}{A B:Prop}(a:A)(x:B):aJ b A B:=by cases b;exact x;exact a
abbrev Bs:=Y11
def EW(f:Int):E->Prop
 | .mk _ _ _ _ ks=>ks.length<=3/\Es.wf f ks
theorem EW.of{f:Int} : ∀{e:E},e.wf f->EW f e
 | .mk k n nm op ks,h=>⟨by
  have:=h.1;unfold K0 at this;omega,h.2⟩
theorem EW.e0{f:Int} :EW f e0:=⟨IP,trivial⟩
theorem jX.ew{f k n:Int}{nm j:Y11}{a v:E}{i g:List S}(h:jX f k nm j n a v F i g):EW f a/\EW f v/\Es.wf f F:=by
 unfold jX at h;rcases h with h|h|h|h|h|h|h
 ·rw [h.2.2.2.2.1,h.2.2.2.2.2.2.1];exact⟨EW.e0,EW.of h.2.2.2.2.2.1,trivial⟩
 ·rw [h.2.2.2.2.2.2.1];exact⟨EW.of h.2.2.2.2.1,EW.of h.2.2.2.2.2.1,trivial⟩
 ·rw [h.2.2.2.2.1,h.2.2.2.2.2.2];exact⟨EW.e0,EW.of h.2.2.2.2.2.1,trivial⟩
 ·rw [h.2.2.2.2.1,h.2.2.2.2.2.2.1];exact⟨EW.e0,EW.of h.2.2.2.2.2.1,trivial⟩
 ·rw [h.2.2.2.2.1,h.2.2.2.2.2.2.1];exact⟨EW.e0,EW.of h.2.2.2.2.2.1,trivial⟩
 ·rw [h.2.2.2.2.1,h.2.2.2.2.2.1];exact⟨EW.e0,EW.e0,h.2.2.2.2.2.2.1⟩
 ·rw [h.2.2.2.2.1,h.2.2.2.2.2.1,h.2.2.2.2.2.2.1];exact⟨EW.e0,EW.e0,trivial⟩
def lT:List (Y11):=[[102],[103],[120],[121],[105],[106],[110],[97],[98]]
theorem fE{s:Y11}(h:decide (s∈lT)=true):s∈lT:=of_decide_eq_true h
theorem Rr{f:Int}{s:Y11}(h:s∈bM f):s∈lT:=by
 unfold bM at h;split at h
 ·simp only [BQ,DF,or_false]at h;rcases h with rfl|rfl|rfl|rfl<;>decide
 ·simp only [BQ,DF,or_false]at h;rcases h with rfl|rfl<;>decide
theorem a1G{s:Y11}(h:s∈nK):s∈lT:=by
 simp only [nK,BQ,DF,or_false]at h;rcases h with rfl|rfl<;>decide
theorem uZ(f:Int):(bM f).length<=1000:=by
 unfold bM
 split<;>simp
theorem jX.e{f k n:Int}{nm j:Y11}{a v:E}{i g:List S}(h:jX f k nm j n a v F i g):(a=e0\/a.wf f)/\(v=e0\/v.wf f)/\Es.wf f F:=by
 unfold jX at h;rcases h with h|h|h|h|h|h|h
 ·rw [h.2.2.2.2.2.2.1];exact⟨.inl h.2.2.2.2.1,.inr h.2.2.2.2.2.1,trivial⟩
 ·rw [h.2.2.2.2.2.2.1];exact⟨.inr h.2.2.2.2.1,.inr h.2.2.2.2.2.1,trivial⟩
 ·rw [h.2.2.2.2.2.2];exact⟨.inl h.2.2.2.2.1,.inr h.2.2.2.2.2.1,trivial⟩
 ·rw [h.2.2.2.2.2.2.1];exact⟨.inl h.2.2.2.2.1,.inr h.2.2.2.2.2.1,trivial⟩
 ·rw [h.2.2.2.2.2.2.1];exact⟨.inl h.2.2.2.2.1,.inr h.2.2.2.2.2.1,trivial⟩
 ·exact⟨.inl h.2.2.2.2.1,.inl h.2.2.2.2.2.1,h.2.2.2.2.2.2.1⟩
 ·rw [h.2.2.2.2.2.2.1];exact⟨.inl h.2.2.2.2.1,.inl h.2.2.2.2.2.1,trivial⟩
theorem kH{f k n:Int}{nm:Y11}{op:Int}{ks:List E}(h:E.mk k n nm op ks=e0\/E.wf f (E.mk k n nm op ks)):E.wf f (E.mk k n nm op ks) \/ (k=0/\ks=[]):=by
 rcases h with h|h
 ·obtain⟨g,_,_,_,i⟩:=E.mk.inj (h:E.mk k n nm op ks=E.mk 0 0 [] 0 []);exact .inr ⟨g,i⟩
 ·exact .inl h
theorem cJ: ∀{l:List (Y11)},aM (l.map IV.str)=true
 | []=>rfl
 |_::r=>by simp only [CF,aM,bI,BN];exact cJ
theorem jX.args2{f k n:Int}{nm j:Y11}{a v:E}{i g:List S}(h:jX f k nm j n a v F i g):F.length<=2:=by
 unfold jX at h;rcases h with h|h|h|h|h|h|h
 ·rw [h.2.2.2.2.2.2.1];simp
 ·rw [h.2.2.2.2.2.2.1];simp
 ·rw [h.2.2.2.2.2.2];simp
 ·rw [h.2.2.2.2.2.2.1];simp
 ·rw [h.2.2.2.2.2.2.1];simp
 ·rcases h.2.2.1 with q|q<;>omega
 ·rw [h.2.2.2.2.2.2.1];simp
theorem Es.dp_take{ks:List E}{i:Nat}(h:i<ks.length):Es.dp (ks.take (i+1))=max (Es.dp (ks.take i)) (1+ks[i].dp):=by
 rw [BI h,Es.dp_append];simp only [Es.dp];omega
theorem Es.dp_le{ks:List E}(i:Nat):Es.dp (ks.take i)<=Es.dp ks:=by
 have h:=Es.dp_append (a:=ks.take i) (b:=ks.drop i);rw [DT]at h;omega
theorem Es.dp_mem: ∀{ks:List E}{e:E},e∈ks->1+e.dp<=Es.dp ks
 |x::r,e,h=>by
  rcases BQ.1 h with rfl|h
  ·simp only [Es.dp];omega
  ·have:=Es.dp_mem h;simp only [Es.dp];omega
theorem Es.wf_mem{f:Int} : ∀{ks:List E}{e:E},Es.wf f ks->e∈ks->e.wf f
 |x::r,e,h,g=>by
  rcases BQ.1 g with rfl|g
  ·exact h.1
  ·exact Es.wf_mem h.2 g
theorem Ss.wf_mem{f:Int} : ∀{ks:List S}{e:S},Ss.wf f ks->e∈ks->e.wf f
 |x::r,e,h,g=>by
  rcases BQ.1 g with rfl|g
  ·exact h.1
  ·exact Ss.wf_mem h.2 g
theorem Ss.ed_mem{m:Nat} : ∀{ks:List S}{e:S},Ss.ed m ks->e∈ks->e.ed m
 |x::r,e,h,g=>by
  rcases BQ.1 g with rfl|g
  ·exact h.1
  ·exact Ss.ed_mem h.2 g
theorem Ss.cnt_mem: ∀{ks:List S}{e:S},e∈ks->e.cnt<=Ss.cnt ks
 |x::r,e,h=>by
  rcases BQ.1 h with rfl|h
  ·simp only [Ss.cnt];omega
  ·have:=Ss.cnt_mem h;simp only [Ss.cnt];omega
theorem Ss.dp_mem{d:Nat} : ∀{ks:List S}{e:S},e∈ks->e.dp d<=Ss.dp d ks
 |x::r,e,h=>by
  rcases BQ.1 h with rfl|h
  ·simp only [Ss.dp];omega
  ·have:=Ss.dp_mem (d:=d) h;simp only [Ss.dp];omega
theorem Ss.cnt_take{l:List S}{i:Nat}(h:i<l.length):Ss.cnt (l.take (i+1))=Ss.cnt (l.take i)+l[i].cnt:=by
 rw [BI h,Ss.cnt_append];simp only [Ss.cnt];omega
theorem Ss.whl_take{l:List S}{i:Nat}(h:i<l.length):Ss.whl (l.take (i+1))=Ss.whl (l.take i)+l[i].whl:=by
 rw [BI h,Ss.whl_append];simp only [Ss.whl];omega
theorem Ss.dp_take{d:Nat}{l:List S}{i:Nat}(h:i<l.length):Ss.dp d (l.take (i+1))=max (Ss.dp d (l.take i)) (l[i].dp d):=by
 rw [BI h,Ss.dp_append];simp only [Ss.dp];omega
theorem Ss.cnt_le{l:List S}(i:Nat):Ss.cnt (l.take i)<=Ss.cnt l:=by
 have h:=Ss.cnt_append (a:=l.take i) (b:=l.drop i);rw [DT]at h;omega
theorem Ss.dp_le{d:Nat}{l:List S}(i:Nat):Ss.dp d (l.take i)<=Ss.dp d l:=by
 have h:=Ss.dp_append (d:=d) (a:=l.take i) (b:=l.drop i);rw [DT]at h;omega
mutual
theorem S.whl_cnt: ∀s:S,s.whl<=s.cnt
 | .mk k _ _ _ _ _ _ th el=>by
  have:=Ss.whl_cnt th;have:=Ss.whl_cnt el;simp only [S.whl,S.cnt];split<;>omega
theorem Ss.whl_cnt: ∀l:List S,Ss.whl l<=Ss.cnt l
 | []=>AJ _
 |s::r=>by
  have:=S.whl_cnt s;have:=Ss.whl_cnt r;simp only [Ss.whl,Ss.cnt];omega
end
theorem Ss.len_cnt: ∀l:List S,l.length<=Ss.cnt l
 | []=>AJ _
 | .mk _ _ _ _ _ _ _ _ _::r=>by
  have:=Ss.len_cnt r;simp only [AK,Ss.cnt,S.cnt];omega
theorem U1{ks:List E}{i o:Nat}{K:Int->Int->Y11->Int->Y10->Nat->Nat->Y14->Prop}(h:i<ks.length)(g:o=i*5)
  (hk: ∀(k n:Int)(nm:Y11)(op:Int)(q:List E),ks[i]= .mk k n nm op q->K k n nm op none 0 q.length (aW q)):
  aI .i64 (aW ks) o fun a=>aI .i64 (aW ks) (o+1) fun b=>bL (aW ks) (o+1+1) fun c=>aI .i64 (aW ks) (o+1+1+1) fun d=>aX 5 (aW ks) (o+1+1+1+1) fun p q r s=>K a b c d p q r s:=by
 refine ldE h g ?_;generalize he:ks[i]=t at*
 cases t with
 |mk k n nm op q=>exact hk k n nm op q rfl
theorem b4Q{l:List S}{i o:Nat}{K:Int->Y11->Y11->Int->Int->Int->Y11->Int->Y10->Nat->Nat->Y14->Int->Int->Y11->Int->Y10->Nat->Nat->Y14->Y10->Nat->Nat->Y14->Y10->Nat->Nat->Y14->Y10->Nat->Nat->Y14->Prop}
  (h:i<l.length) (ho:o=i*17)
  (hk: ∀(k:Int)(nm V:Y11)(n O T:Int)(u:Y11)(z:Int)(G:List E)(X Y:Int)(A:Y11)(D:Int)(L p:List E)(th Z:List S),l[i]= .mk k nm V n (.mk O T u z G) (.mk X Y A D L) p th Z->
   K k nm V n O T u z none 0 G.length (aW G) X Y A D none 0 L.length (aW L) none 0 p.length (aW p) none 0 th.length (aY th) none 0 Z.length (aY Z)):
  aI .i64 (aY l) o fun k=>bL (aY l) (o+1) fun nm=>bL (aY l) (o+1+1) fun V=>aI .i64 (aY l) (o+1+1+1) fun n=>
  aI .i64 (aY l) (o+1+1+1+1) fun O=>aI .i64 (aY l) (o+1+1+1+1+1) fun T=>bL (aY l) (o+1+1+1+1+1+1) fun u=>aI .i64 (aY l) (o+1+1+1+1+1+1+1) fun z=>aX 5 (aY l) (o+1+1+1+1+1+1+1+1) fun p1 q1 r1 s1=>
  aI .i64 (aY l) (o+1+1+1+1+1+1+1+1+1) fun X=>aI .i64 (aY l) (o+1+1+1+1+1+1+1+1+1+1) fun Y=>bL (aY l) (o+1+1+1+1+1+1+1+1+1+1+1) fun A=>aI .i64 (aY l) (o+1+1+1+1+1+1+1+1+1+1+1+1) fun D=>aX 5 (aY l) (o+1+1+1+1+1+1+1+1+1+1+1+1+1) fun p2 q2 r2 s2=>
  aX 5 (aY l) (o+1+1+1+1+1+1+1+1+1+1+1+1+1+1) fun p3 q3 r3 s3=>aX 17 (aY l) (o+1+1+1+1+1+1+1+1+1+1+1+1+1+1+1) fun p4 q4 r4 s4=>aX 17 (aY l) (o+1+1+1+1+1+1+1+1+1+1+1+1+1+1+1+1) fun p5 q5 r5 s5=>
  K k nm V n O T u z p1 q1 r1 s1 X Y A D p2 q2 r2 s2 p3 q3 r3 s3 p4 q4 r4 s4 p5 q5 r5 s5:=by
 subst ho;have g:=fun j (hj:j<17)=>wS (j:=j) h hj
 generalize l[i]=t at*
 cases t with
 |mk k nm V n a v p th Z=>
  cases a with
  |mk O T u z G=>
   cases v with
   |mk X Y A D L=>
    exact bY (g 0 IN) (gO (g 1 IN) (gO (g 2 IN) (bY (g 3 IN) (bY (g 4 IN) (bY (g 5 IN) (gO (g 6 IN) (bY (g 7 IN) (eF (g 8 IN) (bY (g 9 IN) (bY (g 10 IN) (gO (g 11 IN) (bY (g 12 IN) (eF (g 13 IN) (eF (g 14 IN) (eF (g 15 IN) (eF (g 16 IN) (hk k nm V n O T u z G X Y A D L p th Z rfl)))))))))))))))))
theorem d1K(s:S): ∃(k:Int)(nm L:Y11)(n A D:Int)(j:Y11)(l:Int)(i:List E)(O T:Int)(u:Y11)(z:Int)(p g:List E)(K G:List S),s= .mk k nm L n (.mk A D j l i) (.mk O T u z p) g K G:=by
 cases s with
 |mk k nm L n a v g K G=>
  cases a with
  |mk A D j l i=>
   cases v with
   |mk O T u z p=>exact⟨_,_,_,_,_,_,_,_,_,_,_,_,_,_,_,_,_,rfl⟩
theorem c3E{l:List S}{i o:Nat}{K:Int->Prop}(h:i<l.length){k:Int}{nm A:Y11}{n:Int}{a v:E}{z g:List S}(e:l[i]= .mk k nm A n a v F z g)(u:o=i*17)(p:K k):aI .i64 (aY l) o K:=
 bY (n:=k) (by rw [u];have:=wS (j:=0) h IN;rw [FL]at this;rw [this,e];rfl) p
theorem d1L{l:List S}{i o:Nat}{K:Y11->Prop}(h:i<l.length){k:Int}{nm A:Y11}{n:Int}{a v:E}{z g:List S}(e:l[i]= .mk k nm A n a v F z g)(u:o=i*17+1)(p:K nm):bL (aY l) o K:=
 gO (b:=nm) (by rw [u,wS (j:=1) h IN,e];rfl) p
theorem O7{l:List S}{i o:Nat}{K:Y10->Nat->Nat->Y14->Prop}(h:i<l.length){k:Int}{nm A:Y11}{n:Int}{a v:E}{g p:List S}(e:l[i]= .mk k nm A n a v F g p)(z:o=i*17+15)(u:K none 0 g.length (aY g)):aX 17 (aY l) o K:=
 eF (by rw [z,wS (j:=15) h IN,e];cases a;cases v;rfl) u
theorem O8{l:List S}{i o:Nat}{K:Y10->Nat->Nat->Y14->Prop}(h:i<l.length){k:Int}{nm A:Y11}{n:Int}{a v:E}{z g:List S}(e:l[i]= .mk k nm A n a v F z g)(u:o=i*17+16)(p:K none 0 g.length (aY g)):aX 17 (aY l) o K:=
 eF (by rw [u,wS (j:=16) h IN,e];cases a;cases v;rfl) p
def SK(g:Y15)(s k:Int):Prop:=0<=k/\k<g.length/\(aK g).getD k.toNat 0=s
theorem SK.mono{k s:Int}(h:SK A s k)(g:A<+:B):SK B s k:=by
 obtain⟨i,h2,j⟩:=h;refine⟨i,Int.lt_of_lt_of_le h2 (by have:=g.length_le;omega),?_⟩;rw [nL (jG g) (by rw [bR];omega),j]
def yP(g:Y15):Y12->Y12->Prop
 | [],[]=>True
 |k::ks,s::ss=>(SK g s k/\s≠0)/\yP g ks ss
 |_,_=>False
theorem yP.map{g:Y15} : ∀{ks ss:Y12},yP g ks ss->ks.all (iG (aK g))=true/\ks.map (fun q=>(aK g).getD q.toNat 0)=ss/\∀k∈ks,0<=k/\k<g.length
 | [],[],_=>⟨rfl,rfl,fun k h=>by cases h⟩
 |k::ks,s::ss,h=>by
  obtain⟨⟨⟨j,h2,l⟩,p⟩,u⟩:=h;obtain⟨z,A,D⟩:=yP.map u;refine⟨?_,?_,?_⟩
  ·rw [EP,z,AT];unfold iG
   simp only [AF,decide_eq_true_eq];exact⟨j,by rw [bR];exact h2,by rw [l];exact p⟩
  ·rw [CF,A,l]
  ·intro q i;rcases BQ.1 i with rfl|i
   ·exact⟨j,h2⟩
   ·exact D q i
 | [],_::_,h=>h.elim
 |_::_,[],h=>h.elim
theorem yP.append : ∀{ks ss i j:Y12},yP A ks ss->yP A i j->yP A (ks++i) (ss++j)
 | [],[],_,_,_,h=>h
 |k::ks,s::ss,_,_,h,g=>⟨h.1,yP.append h.2 g⟩
 | [],_::_,_,_,h,_=>h.elim
 |_::_,[],_,_,h,_=>h.elim
theorem yP.one{k s:Int}(h:SK A s k)(hs:s≠0):yP A [k] [s]:=⟨⟨h,hs⟩,trivial⟩
theorem yP.len : ∀{ks ss:Y12},yP A ks ss->ks.length=ss.length
 | [],[],_=>rfl
 |k::ks,s::ss,h=>by simp [yP.len h.2]
 | [],_::_,h=>h.elim
 |_::_,[],h=>h.elim
def AV(g:Y15)(vs:Y12):Prop:= ∀v∈vs,SK g 1 v
theorem AV.sks : ∀{vs:Y12},AV A vs->yP A vs (List.replicate vs.length 1)
 | [],_=>trivial
 |v::vs,h=>⟨⟨h v BJ,IN⟩,AV.sks fun x g=>h x (BX _ g)⟩
theorem AV.mono{vs:Y12}(h:AV A vs)(g:A<+:B):AV B vs:=fun v i=>(h v i).mono g
theorem AV.set{vs:Y12}{i:Nat}{v:Int}(h:AV A vs)(g:SK A 1 v):AV A (vs.set i v):=fun x j=>by
 rcases HI j with q|rfl
 ·exact h x q
 ·exact g
theorem lJ{op im:Int}{ks ss:Y12}(h:yP A ks ss):cP A (aK A) ⟨op,im,ks⟩=bC (eK A ⟨op,im,ks⟩) op im ss:=by
 obtain⟨g,h2,_⟩:=h.map;unfold cP
 rw [if_pos g,h2]
theorem Ks{n:Nd}(j:A<+:B)(h:cP A (aK A) n≠0):cP B (aK B) n=cP A (aK A) n:=by
 unfold cP at h⊢
 by_cases c:n.ks.all (iG (aK A))=true
 ·rw [if_pos c]at h⊢;have e: ∀q∈n.ks,(aK B).getD q.toNat 0=(aK A).getD q.toNat 0/\0<=q/\q<A.length:=fun q g=>by
   have:=rW (CA.1 c q g);rw [bR]at this;exact⟨nL (jG j) (by rw [bR];omega),this.1,this.2.1⟩
  have G:=j.length_le;rw [if_pos]
  ·have i:n.ks.map (fun q=>(aK B).getD q.toNat 0)=n.ks.map (fun q=>(aK A).getD q.toNat 0):=FH fun q g=>(e q g).1
   rw [i]
   by_cases z:n.ks=[]
   ·rw [z];rw [z]at h
    by_cases o:n.op=25
    ·exfalso;apply h;unfold bC
     rw [if_neg IM,if_neg IM,if_pos o,if_neg (by intro x;exact absurd x.1 IP)]
    ·unfold bC
     split
     ·rfl
     split
     ·rfl
     rfl
   ·have l:eK B n=eK A n:=by
     unfold eK
     obtain⟨a,r,p⟩:=List.exists_cons_of_ne_nil z;have ha:=e a (by rw [p];exact BJ);rw [p];show(B.getD a.toNat default).ks.length=(A.getD a.toNat default).ks.length;obtain⟨t,rfl⟩:=j;simp only [AN];rw [BD IM]
    rw [l]
  ·refine CA.2 fun q g=>?_
   have D:=rW (CA.1 c q g);obtain⟨u,i,l⟩:=e q g;unfold iG
   simp only [AF,decide_eq_true_eq];rw [bR,u];exact⟨i,IM,D.2.2⟩
 ·rw [if_neg c]at h;exact absurd rfl h
structure GL(ns:Y15)(lo:Int):Prop where
 ok: ∀n∈ns,okN n/\n.ks.length<=40
 wf: ∀s∈aK ns,s≠0
 lv: ∀n∈ns,n.op=3->n.im<16*lo
 ln: ∀n∈ns,n.op=31->n.im<lo
 lu: ∀(i j:Nat)(n m:Nd),ns[i]?=some n->ns[j]?=some m->n.op=31->m.op=31->n.im=m.im->i=j
 lf: ∀(i:Nat)(n:Nd),ns[i]?=some n->n.op=31-> ∀j:Nat,1<=j->j<n.ks.length/2-> ∀(i2:Nat)(n2:Nd),ns[i2]?=some n2->n2.op=3->n2.im=16*n.im+j->n.ks.getD j 0<i2
structure GX(ns ms:Y15)(lo lo2:Int):Prop where
 pre:ns<+:ms
 le:lo<=lo2
 nw: ∀(i:Nat)(n:Nd),ms[i]?=some n->ns.length<=i->(n.op=3->16*lo<=n.im)/\(n.op=31->lo<=n.im)
theorem GX.refl{lo:Int} :GX A A lo lo:=⟨DW _,GR _,fun i n h g=>by
 rw [BG g]at h;cases h⟩
theorem GX.trans{a b c:Y15}{x y z:Int}(h:GX a b x y)(g:GX b c y z):GX a c x z:=⟨h.pre.trans g.pre,Int.le_trans h.le g.le,fun i n e j=>by
 rcases BC i b.length with q|q
 ·refine h.nw i n ?_ j;rw [<-e];obtain⟨t,rfl⟩:=g.pre;rw [BD q]
 ·have:=g.nw i n e q;have l:=h.le;exact⟨fun o=>by have:=this.1 o;omega,fun o=>by have:=this.2 o;omega⟩⟩
theorem hH{a b:Y15}(h:a<+:b){i:Nat}{n:Nd}(e:a[i]?=some n):b[i]?=some n:=by
 obtain⟨t,rfl⟩:=h;rw [BD (BB.1 e).1];exact e
theorem Rs{n:Nd} : ∀{l:Y15}{i j:Nat},iY n l i=some j->i<=j/\l[j-i]?=some n
 | [],i,j,h=>by cases h
 |x::l,i,j,h=>by
  unfold iY at h;split at h
  ·rename_i e
   cases h
   exact⟨AJ _,by rw [EZ,e];rfl⟩
  ·obtain⟨g,h2⟩:=Rs h;exact⟨IM,by rw [show j-i=j- (i+1)+1 by omega,DB];exact h2⟩
theorem Rt{n:Nd} : ∀{l:Y15}{i:Nat},iY n l i=none->n∉l
 | [],i,h,hm=>by cases hm
 |x::l,i,h,hm=>by
  unfold iY at h;split at h
  ·cases h
  ·rename_i e;rcases BQ.1 hm with q|q
   ·exact e q
   ·exact Rt h q
theorem D5(g:Y15)(n:Nd):(∃i:Nat,g[i]?=some n/\cH g n=(g,(i:Int))) \/ (n∉g/\cH g n=(g++ [n],(g.length:Int))):=by
 unfold cH
 cases h:iY n g 0 with
 |some i=>exact .inl ⟨i,(Rs h).2,rfl⟩
 |none=>exact .inr ⟨Rt h,rfl⟩
theorem c0G(h: ∀s∈aK A,s≠0){i:Nat}{n:Nd}(e:A[i]?=some n):cP A (aK A) n=(aK A).getD i 0:=by
 rw [nP e];refine Ks (EH i A) ?_;rw [<-nP e];have hi:i< (aK A).length:=by rw [bR];exact(BB.1 e).1
 rw [AN,AA hi];exact h _ (AG hi)
theorem vA{n m:Nd}{i:Nat}(h:(A++ [n])[i]?=some m):A[i]?=some m\/ (i=A.length/\m=n):=by
 rcases BC i A.length with q|q
 ·exact .inl (by rw [BD q]at h;exact h)
 ·rw [BU q]at h;have:i-A.length=0:=by
   rcases FP (i-A.length)with z|z
   ·exact z
   ·rw [BG (show [n].length<=i-A.length from z)]at h;cases h
  rw [this]at h;exact .inr ⟨IM,by simpa using h.symm⟩
theorem GL.put{lo:Int}{n:Nd}{s:Int}(g:GL A lo)(hn:okN n/\n.ks.length<=40)(hs:cP A (aK A) n=s)(h0:s≠0)(h3:n.op=3->0<=n.im/\n.im<16*lo)
  (h3':n.op=3-> ∀(i:Nat)(m:Nd),A[i]?=some m->m.op=31->m.im≠n.im/16) (h31:n.op=31->n.im<lo/\(∀m∈A,m.op=31->m.im≠n.im)/\
   ∀j:Nat,1<=j->j<n.ks.length/2-> ∀(T:Nat)(n2:Nd),A[T]?=some n2->n2.op=3->n2.im=16*n.im+j->n.ks.getD j 0<T):
  GL (cH A n).1 lo/\SK (cH A n).1 s (cH A n).2/\A<+:(cH A n).1/\(cH A n).1.length<=A.length+1/\(∀(i:Nat)(m:Nd),(cH A n).1[i]?=some m->A.length<=i->m=n):=by
 rcases D5 A n with⟨i,e,Z⟩| ⟨K,Z⟩
 ·rw [Z];have hi:=(BB.1 e).1;refine⟨g,⟨IP,by simp;omega,?_⟩,DW _,ED _,fun j m h Y=>by rw [BG Y]at h;cases h⟩;rw [<-hs,c0G g.wf e];simp
 ·rw [Z];have O:=qU A n;refine⟨⟨?_,?_,?_,?_,?_,?_⟩,⟨IP,by simp;omega,?_⟩,EJ _ _,IP,fun j m h Y=>?_⟩
  ·intro m K;rcases CB.1 K with q|q
   ·exact g.ok m q
   ·rw [BO.1 q];exact hn
  ·intro t ht;dsimp only at ht;rw [O]at ht;rcases CB.1 ht with q|q
   ·exact g.wf t q
   ·rw [BO.1 q,hs];exact h0
  ·intro m K o;rcases CB.1 K with q|q
   ·exact g.lv m q o
   ·rw [BO.1 q]at o⊢;exact(h3 o).2
  ·intro m K o;rcases CB.1 K with q|q
   ·exact g.ln m q o
   ·rw [BO.1 q]at o⊢;exact(h31 o).1
  ·intro i j a b ha X p u l;rcases vA ha with qa| ⟨qa,ea⟩<;>rcases vA X with G| ⟨G,V⟩
   ·exact g.lu i j a b qa G p u l
   ·rw [V]at u l;exact absurd l ((h31 u).2.1 a (CR qa) p)
   ·rw [ea]at p l;exact absurd l.symm ((h31 p).2.1 b (CR G) u)
   ·omega
  ·intro i a ha p j L D T b X u l;rcases vA ha with qa| ⟨qa,ea⟩<;>rcases vA X with G| ⟨G,V⟩
   ·exact g.lf i a qa p j L D T b G u l
   ·rw [V]at u l;exfalso;refine h3' u i a qa p ?_;have:(j:Int)<16\/16<=(j:Int):=IM;rcases this with hj|hj
    ·omega
    ·exfalso;have h2:=(g.ok a (CR qa));have h4:=c0G g.wf qa;have hi:i< (aK A).length:=by rw [bR];exact(BB.1 qa).1
     have z:(aK A).getD i 0≠0:=by
      rw [AN,AA hi];exact g.wf _ (AG hi)
     rw [<-h4]at z;unfold cP at z;split at z
     ·unfold bC at z;rw [if_pos p]at z;split at z
      ·rename_i c;have:=nO c.1;rw [BF]at this;omega
      ·exact z rfl
     ·exact z rfl
   ·rw [ea]at p D l⊢;exact(h31 p).2.2 j L D T b G u l
   ·rw [ea]at p;rw [V]at u;omega
  ·dsimp only;rw [O,AE,AN,BU (by rw [bR];exact AJ _),bR,EZ,hs];rfl
  ·rcases vA h with q| ⟨_,q⟩
   ·rw [BG Y]at q;cases q
   ·exact q
def LV(h:Heap)(id:Nat)(lv:IV)(g:Y15):Prop:=(g=[]/\lv= .nilslice) \/ ∃io,lv= .vslice (some io) (g.length*3) g.length 3 (g.flatMap cN)/\h.get io= .tip (g.length*3)/\io<h.next/\io≠id
def NL(h:Heap)(id j:Nat):Prop:= ∀(cs:Y14)(e n z:Nat)(c:Y14),h.get id= .cells cs->cs[2]?≠some (.vslice (some j) e n z c)
structure FC(id:Nat)(h h2:Heap):Prop where
 nx:h.next<=h2.next
 cl: ∀(j:Nat)(c:Y14),j<h.next->j≠id->h.get j= .cells c->h2.get j= .cells c
 tp: ∀(j m:Nat),j<h.next->h.get j= .tip m->NL h id j->h2.get j= .tip m/\NL h2 id j
theorem FC.refl{id:Nat}{h:Heap} :FC id h h:=⟨AJ _,fun _ _ _ _ e=>e,fun _ _ _ e n=>⟨e,n⟩⟩
theorem FC.trans{id:Nat}{a b c:Heap}(x:FC id a b)(y:FC id b c):FC id a c:=
 ⟨BK x.nx y.nx,fun j r g i e=>y.cl j r (AI g x.nx) i (x.cl j r g i e),fun j m g e n=>by
  obtain⟨p,q⟩:=x.tp j m g e n;exact y.tp j m (AI g x.nx) p q⟩
theorem NL.push{h:Heap}{id j:Nat}{x:IObj}(g:id<h.next)(n:NL h id j):NL (h.push x) id j:=fun cs e a z c q=>n cs e a z c (by rwa [aL g]at q)
theorem FC.push{id:Nat}{h:Heap}{x:IObj}(g:id<h.next):FC id h (h.push x):=⟨ED _,fun j c i _ e=>by rw [aL i];exact e,fun j m i e n=>⟨by rw [aL i];exact e,n.push g⟩⟩
theorem tE{h:Heap}{id j m:Nat}{a b:Y14}(i:h.get id= .cells a)(hs: ∀(e n z:Nat)(c:Y14),b[2]?=some (.vslice (some j) e n z c)-> ∃e n z c,a[2]?=some (.vslice (some j) e n z c))(g:h.get j= .tip m)(n:NL h id j):
  (h.set id (.cells b)).get j= .tip m/\NL (h.set id (.cells b)) id j:=by
 refine⟨?_,fun cs e p z c q l=>?_⟩
 ·rw [aG (fun q=>by rw [q,i]at g;cases g)];exact g
 ·rw [aH,IObj.cells.injEq]at q;subst q;obtain⟨A,D,G,u,h2⟩:=hs _ _ _ _ l;exact n a _ _ _ _ i h2
theorem FC.set{id:Nat}{h:Heap}{a b:Y14}(g:h.get id= .cells a)(hs: ∀(j e n z:Nat)(c:Y14),j<h.next->b[2]?=some (.vslice (some j) e n z c)-> ∃e n z c,a[2]?=some (.vslice (some j) e n z c)):FC id h (h.set id (.cells b)):=
 ⟨AJ _,fun j c _ l e=>by rw [aG l];exact e,fun j m i e n=>tE g (hs j · · · · i) e n⟩
theorem FC.tip{id i m:Nat}{h:Heap}{x:IObj}{a:Y14}{e n z:Nat}{c:Y14}(u:h.get i= .tip m)(g:h.get id= .cells a)(h2:a[2]?=some (.vslice (some i) e n z c)):FC id h (h.set i x):=
 ⟨AJ _,fun j c _ O e=>by rw [aG (fun q=>by rw [q,u]at e;cases e)];exact e,fun j m2 L e n=>by
  have p:j≠i:=fun q=>n a _ _ _ _ g (by rw [q];exact h2)
  have l:id≠i:=fun q=>by rw [q,u]at g;cases g
  exact⟨by rw [aG p];exact e,fun cs D G K A q=>n cs D G K A (by rwa [aG l]at q)⟩⟩
theorem FC.fresh{id:Nat}{h:Heap}{x:IObj}{a b:Y14}{e n z:Nat}{c:Y14}(D:id<h.next)(A:h.get id= .cells a)(u:b[2]?=some (.vslice (some h.next) e n z c)):FC id h ((h.push x).set id (.cells b)):=
 ⟨ED _,fun j r i G e=>by rw [aG G,aL i];exact e,fun j m i g O=>by
  have l:j≠id:=fun q=>by rw [q,A]at g;cases g
  refine⟨by rw [aG l,aL i];exact g,fun cs L T V K q p=>?_⟩;rw [aH,IObj.cells.injEq]at q;subst q;rw [u]at p;simp only [AC,IV.vslice.injEq]at p;omega⟩
structure PSt where
 ns:Y15
 ks:Y12
 a:IV
 b:IV
 c:IV
 d:IV
 e:IV
 f:IV
def PSt.cells(p:PSt)(lv:IV):Y14:=[p.a,p.b,lv,p.c,p.d,p.e,p.f]
def bE(h:Heap)(id:Nat)(p:PSt)(op im:Int)(i:Nat)(g:Y14):Prop:=
 id<h.next/\(∃lv,h.get id= .cells (p.cells lv)/\LV h id lv p.ns)/\(i=p.ks.length/\g=p.ks.map (IV.int .i64))/\(okN ⟨op,im,p.ks⟩/\p.ks.length<=40)/\(∀n∈p.ns,okN n/\n.ks.length<=40)/\p.ns.length<=1000000
def aQ(h:Heap)(id:Nat)(p:PSt)(op im v:Int)(h2:Heap):Prop:=
 (∃lv,h2.get id= .cells (p.cells lv)/\LV h2 id lv (cH p.ns ⟨op,im,p.ks⟩).1)/\v=(cH p.ns ⟨op,im,p.ks⟩).2/\FC id h h2
structure BSt where
 pa:Y14
 pf:Y14
 f:Int
 ns:Y15
 io:Y10
 ie:Nat
 iv:Nat
 vs:Y12
 st:Int
 lo:Int
def BSt.cells(s:BSt)(lv:IV):Y14:=[.vslice none 0 2 2 s.pa,.vslice none 0 2 9 s.pf,lv,.vslice s.io s.ie (bM s.f).length 1 ((bM s.f).map IV.str),.hslice s.iv 0 s.vs.length 1,.int .i64 s.st,.int .i64 s.lo]
def BH(h:Heap)(id:Nat)(s:BSt):Prop:=id<h.next/\(∃lv,h.get id= .cells (s.cells lv)/\LV h id lv s.ns)/\(s.iv<h.next/\s.iv≠id/\h.get s.iv= .cells (s.vs.map (IV.int .i64)))
structure GS(s:BSt):Prop where
 gl:GL s.ns s.lo
 av:AV s.ns s.vs
 sk:SK s.ns 2 s.st
 vl:s.vs.length=(bM s.f).length
 pp:oV s.pa s.pf
 hf:s.f=0\/s.f=1
 hn:s.ns.length<=100000
 hl:0<=s.lo/\s.lo<=10
def BSt.pst(s:BSt)(ks:Y12):PSt:=⟨s.ns,ks,.vslice none 0 2 2 s.pa,.vslice none 0 2 9 s.pf,.vslice s.io s.ie (bM s.f).length 1 ((bM s.f).map IV.str),.hslice s.iv 0 s.vs.length 1,.int .i64 s.st,.int .i64 s.lo⟩
theorem LV.set{h:Heap}{id i:Nat}{lv:IV}{x:IObj}(l:LV h id lv A){c:Y14}(j:h.get i= .cells c):LV (h.set i x) id lv A:=by
 rcases l with l| ⟨io,p,g,u,z⟩
 ·exact .inl l
 ·exact .inr ⟨io,p,by rw [aG (fun q=>by rw [q,j]at g;cases g)];exact g,u,z⟩
theorem LV.push{h:Heap}{id:Nat}{lv:IV}{x:IObj}(l:LV h id lv A):LV (h.push x) id lv A:=by
 rcases l with l| ⟨io,i,j,g,p⟩
 ·exact .inl l
 ·exact .inr ⟨io,i,by rw [aL g];exact j,BM g,p⟩
theorem BH.push{h:Heap}{id:Nat}{s:BSt}{x:IObj}(b:BH h id s):BH (h.push x) id s:=by
 obtain⟨g,⟨lv,j,l⟩,i,p,u⟩:=b;exact⟨BM g,⟨lv,by rw [aL g];exact j,l.push⟩,BM i,p,by rw [aL i];exact u⟩
theorem BH.tip{h:Heap}{id i:Nat}{s:BSt}{m:Nat}{x:IObj}(b:BH h id s)(hi:h.get i= .tip m)(G: ∀lv,h.get id= .cells (s.cells lv)-> ∀io e n c,lv= .vslice (some io) e n 3 c->io≠i):BH (h.set i x) id s:=by
 obtain⟨u,⟨lv,g,z⟩,A,D,j⟩:=b;refine⟨u,⟨lv,by rw [aG (fun q=>by rw [q,hi]at g;cases g)];exact g,?_⟩,A,D,by rw [aG (fun q=>by rw [q,hi]at j;cases j)];exact j⟩;rcases z with l| ⟨io,p,K,L,O⟩
 ·exact .inl l
 ·exact .inr ⟨io,p,by rw [aG (G lv g io _ _ _ p)];exact K,L,O⟩
theorem BH.st{h:Heap}{id:Nat}{s:BSt}{lv:IV}{v:Int}(b:BH h id s)(j:h.get id= .cells (s.cells lv)):BH (h.set id (.cells (({s with st:=v } :BSt).cells lv))) id {s with st:=v } :=by
 obtain⟨l,⟨lv',g,p⟩,u,i,z⟩:=b;have e:lv'=lv:=by
  rw [j]at g;simp only [IObj.cells.injEq,BSt.cells,BS,true_and,and_true]at g;exact g.symm
 subst e;exact⟨l,⟨lv',aH,p.set j⟩,u,i,by rw [aG i];exact z⟩
theorem BH.var{h:Heap}{id:Nat}{s:BSt}{i:Nat}{v:Int}(b:BH h id s):BH (h.set s.iv (.cells ((s.vs.set i v).map (IV.int .i64)))) id {s with vs:=s.vs.set i v } :=by
 obtain⟨j,⟨lv,l,p⟩,u,g,z⟩:=b;exact⟨j,⟨lv,by rw [aG g.symm,l];simp [BSt.cells],p.set z⟩,u,g,aH⟩
theorem BH.row{h:Heap}{id:Nat}{s:BSt}{lv:IV}{j:Nat}{ws:Y12}(b:BH h id s)(i:h.get id= .cells (s.cells lv))(A:j<h.next)(l:j≠id)(z:h.get j= .cells (ws.map (IV.int .i64))):
  BH (h.set id (.cells (({s with iv:=j,vs:=ws } :BSt).cells lv))) id {s with iv:=j,vs:=ws } :=by
 obtain⟨p,⟨lv',g,u⟩,D,G,K⟩:=b;have e:lv'=lv:=by
  rw [i]at g;simp only [IObj.cells.injEq,BSt.cells,BS,true_and,and_true]at g;exact g.symm
 subst e;exact⟨p,⟨lv',aH,u.set i⟩,A,l,by rw [aG l];exact z⟩
theorem BH.loops{h:Heap}{id:Nat}{s:BSt}{lv:IV}{v:Int}(b:BH h id s)(j:h.get id= .cells (s.cells lv)):BH (h.set id (.cells (({s with lo:=v } :BSt).cells lv))) id {s with lo:=v } :=by
 obtain⟨l,⟨lv',g,p⟩,u,i,z⟩:=b;have e:lv'=lv:=by
  rw [j]at g;simp only [IObj.cells.injEq,BSt.cells,BS,true_and,and_true]at g;exact g.symm
 subst e;exact⟨l,⟨lv',aH,p.set j⟩,u,i,by rw [aG i];exact z⟩
theorem BH.pre{h:Heap}{id:Nat}{s:BSt}{op im:Int}{ks:Y12}(b:BH h id s)(g:GS s)(i:aR op/\aR im)(u: ∀k∈ks,0<=k/\k<s.ns.length)(z:ks.length<=40):bE h id (s.pst ks) op im ks.length (ks.map (IV.int .i64)):=by
 obtain⟨j,⟨lv,l,p⟩,_⟩:=b;have A:=g.hn;refine⟨j,⟨lv,l,p⟩,⟨rfl,rfl⟩,⟨⟨i.1,i.2,fun k q=>?_⟩,z⟩,g.gl.ok,by show s.ns.length<=1000000;omega⟩;have:=u k q;unfold aR
 omega
structure BP(h:Heap)(id:Nat)(s:BSt)(t v:Int)(h2:Heap)(ns2:Y15):Prop where
 bh:BH h2 id {s with ns:=ns2 }
 gs:GS {s with ns:=ns2 }
 pre:s.ns<+:ns2
 sk:SK ns2 t v
 len:ns2.length<=s.ns.length+1
 fc:FC id h h2
theorem GS.mono{s:BSt}(g:GS s)(j:GL A x)(i:s.ns<+:A)(p:A.length<=100000)(l:0<=x/\x<=10):GS {s with ns:=A,lo:=x } :=
 ⟨j,g.av.mono i,g.sk.mono i,g.vl,g.pp,g.hf,p,l⟩
theorem BH.put{h:Heap}{id:Nat}{s:BSt}{op im v t:Int}{ks:Y12}{h2:Heap}(b:BH h id s)(g:GS s)(p:aQ h id (s.pst ks) op im v h2)
  (gp:GL (cH s.ns ⟨op,im,ks⟩).1 s.lo/\SK (cH s.ns ⟨op,im,ks⟩).1 t (cH s.ns ⟨op,im,ks⟩).2/\s.ns<+:(cH s.ns ⟨op,im,ks⟩).1/\(cH s.ns ⟨op,im,ks⟩).1.length<=s.ns.length+1) (hn:s.ns.length<100000):
  BP h id s t v h2 (cH s.ns ⟨op,im,ks⟩).1:=by
 obtain⟨⟨lv,V,z⟩,A,i⟩:=p;obtain⟨L,O,u,T⟩:=gp;obtain⟨D,_,j,l,G⟩:=b;have e:(s.pst ks).ns=s.ns:=rfl;have K:(s.pst ks).ks=ks:=rfl;rw [e,K]at z A;exact⟨⟨AI D i.nx,⟨lv,V,z⟩,AI j i.nx,l,i.cl _ _ j l G⟩,g.mono L u IM g.hl,u,by rw [A];exact O,T,i⟩
structure BE(h:Heap)(id:Nat)(s:BSt)(h2:Heap)(ns2:Y15)(st2:Int)(c:Nat):Prop where
 bh:BH h2 id {s with ns:=ns2,st:=st2 }
 gs:GS {s with ns:=ns2,st:=st2 }
 gx:GX s.ns ns2 s.lo s.lo
 len:ns2.length<=s.ns.length+c
 fc:FC id h h2
theorem BE.refl{h:Heap}{id:Nat}{s:BSt}(b:BH h id s)(g:GS s):BE h id s h s.ns s.st 0:=⟨b,g,GX.refl,AJ _,FC.refl⟩
theorem BE.trans{h h2 p:Heap}{id:Nat}{s:BSt}{g i:Y15}{j l:Int}{c d:Nat}(x:BE h id s h2 g j c)(y:BE h2 id {s with ns:=g,st:=j } p i l d):BE h id s p i l (c+d):=
 ⟨y.bh,y.gs,x.gx.trans y.gx,by have u:=x.len;have h2:i.length<=g.length+d:=y.len;omega,x.fc.trans y.fc⟩
theorem BE.le{h h2:Heap}{id:Nat}{s:BSt}{c d:Nat}(x:BE h id s h2 A y c)(g:c<=d):BE h id s h2 A y d:=⟨x.bh,x.gs,x.gx,BK x.len IM,x.fc⟩
theorem BE.st{h h2:Heap}{id:Nat}{s:BSt}{g v:Int}{c:Nat}{lv:IV}(x:BE h id s h2 A g c)(l:SK A 2 v)(i:h2.get id= .cells (({s with ns:=A,st:=g } :BSt).cells lv)):
  BE h id s (h2.set id (.cells (({s with ns:=A,st:=v } :BSt).cells lv))) A v c:=
 ⟨x.bh.st i,⟨x.gs.gl,x.gs.av,l,x.gs.vl,x.gs.pp,x.gs.hf,x.gs.hn,x.gs.hl⟩,x.gx,x.len,x.fc.trans (FC.set i fun j e n z c _ q=>⟨e,n,z,c,q⟩)⟩
theorem GX.new{lo:Int}{n:Nd}(p:A<+:B)(h: ∀(i:Nat)(m:Nd),B[i]?=some m->A.length<=i->m=n)(j:n.op≠3)(g:n.op≠31):GX A B lo lo:=
 ⟨p,GR _,fun i m e l=>by rw [h i m e l];exact⟨fun q=>absurd q j,fun q=>absurd q g⟩⟩
theorem BE.put{h:Heap}{id:Nat}{s:BSt}{op im v t:Int}{ks ss:Y12}{h2:Heap}(b:BH h id s)(g:GS s)(p:aQ h id (s.pst ks) op im v h2)(hs:yP s.ns ks ss)(u:bC (eK s.ns ⟨op,im,ks⟩) op im ss=t)(h0:t≠0)
  (ho:op≠3/\op≠31) (hb:aR op/\aR im) (hl:ks.length<=40) (hn:s.ns.length<100000):BE h id s h2 (cH s.ns ⟨op,im,ks⟩).1 s.st 1/\SK (cH s.ns ⟨op,im,ks⟩).1 t v:=by
 have l:=(hs.map).2.2;have z:=g.hn;have i:=g.gl.put (n:=⟨op,im,ks⟩) (s:=t) ⟨⟨hb.1,hb.2,fun k q=>by have:=l k q;unfold aR;omega⟩,hl⟩ (by rw [lJ hs,u]) h0 (fun q=>absurd q ho.1) (fun q=>absurd q ho.1) (fun q=>absurd q ho.2);have j:=BH.put (t:=t) b g p ⟨i.1,i.2.1,i.2.2.1,i.2.2.2.1⟩ hn;exact⟨⟨j.bh,j.gs,GX.new i.2.2.1 i.2.2.2.2 ho.1 ho.2,j.len,j.fc⟩,j.sk⟩
def PuI(p:PSt)(op im:Int)(i:Nat):Prop:=i<=p.ns.length/\∀j,j<i->p.ns[j]?≠some ⟨op,im,p.ks⟩
theorem D6{n:Nd} : ∀{l:Y15}{i j:Nat},l[j]?=some n->(∀q,q<j->l[q]?≠some n)->iY n l i=some (i+j)
 | [],i,j,h,_=>by simp at h
 |x::l,i,0,h,_=>by
  have:x=n:=by simpa using h
  unfold iY
  rw [if_pos this.symm];rfl
 |x::l,i,j+1,h,hn=>by
  have h0: ¬n=x:=fun e=>hn 0 (CN _) (by simp [e])
  unfold iY
  rw [if_neg h0,D6 (l:=l) (i:=i+1) (j:=j) (by simpa using h) fun q g=>by simpa using hn (q+1) IM];exact congrArg some IM
theorem O9{n:Nd} : ∀{l:Y15}{i:Nat},n∉l->iY n l i=none
 | [],i,_=>rfl
 |x::l,i,h=>by
  unfold iY
  rw [if_neg (fun e=>h (by rw [e];exact BJ)),O9 fun q=>h (BX _ q)]
theorem aQ.old{h g:Heap}{id:Nat}{p:PSt}{op im v:Int}{lv:IV}{i:Nat}(l:FC id h g)(z:g.get id= .cells (p.cells lv))(A:LV g id lv p.ns)(u:p.ns[i]?=some ⟨op,im,p.ks⟩)(D: ∀j,j<i->p.ns[j]?≠some ⟨op,im,p.ks⟩)(G:v=(i:Int)):aQ h id p op im v g:=by
 have e:cH p.ns ⟨op,im,p.ks⟩=(p.ns,(i:Int)):=by
  unfold cH
  rw [D6 u D,BT]
 unfold aQ
 rw [e];exact⟨⟨lv,z,A⟩,G,l⟩
theorem aQ.new{h g:Heap}{id:Nat}{p:PSt}{op im v:Int}(K:id<g.next)(G:FC id h g){lv:IV}(D:g.get id= .cells (p.cells lv))(u:lv= .vslice (some i) (p.ns.length*3) p.ns.length 3 (p.ns.flatMap cN))(O:g.get i= .tip (p.ns.length*3))(A:i<g.next)(l:i≠id)(L:(⟨op,im,p.ks⟩:Nd) ∉p.ns)(T:v=(p.ns.length:Int)):
  aQ h id p op im v ((g.set i (.tip (p.ns.length*3+3))).set id (.cells (p.cells (.vslice (some i) (p.ns.length*3+3) (p.ns.length+1) 3 (p.ns.flatMap cN++ [.int .i64 op,.int .i64 im,.vslice none 0 p.ks.length 1 (p.ks.map (IV.int .i64))]))))):=by
 have e:cH p.ns ⟨op,im,p.ks⟩=(p.ns++ [⟨op,im,p.ks⟩],(p.ns.length:Int)):=by
  unfold cH
  rw [O9 L]
 unfold aQ
 rw [e];refine⟨⟨_,aH,.inr ⟨i,?_,?_,A,l⟩⟩,T,G.trans ((FC.tip O D (by rw [u];rfl)).trans (FC.set ((aG (fun q=>l q.symm)).trans D) fun j e n z c _ q=>?_))⟩
 ·simp only [AH,AK,AY,EF,DD];rfl
 ·rw [aG l,aH];simp only [AH,AK,AY,DD]
 ·have V:i=j:=by
   simp only [PSt.cells,DB,DC,AC,IV.vslice.injEq]at q;exact q.1
  subst V;exact⟨_,_,_,_,by rw [u];rfl⟩
theorem aQ.nil{h g:Heap}{id:Nat}{p:PSt}{op im v:Int}{a:Y14}(i:id<g.next)(j:FC id h g)(l:g.get id= .cells a)(h0:p.ns=[])(u:v=0):
  aQ h id p op im v ((g.push (.tip 3)).set id (.cells (p.cells (.vslice (some g.next) 3 1 3 [.int .i64 op,.int .i64 im,.vslice none 0 p.ks.length 1 (p.ks.map (IV.int .i64))])))):=by
 unfold aQ
 rw [h0];refine⟨⟨_,aH,.inr ⟨g.next,rfl,?_,AQ _,DG i⟩⟩,u,j.trans (FC.fresh i l rfl)⟩;rw [aG (DG i)];exact aU
structure ExPre(h:Heap)(id:Nat)(s:BSt)(d:Nat)(k n:Int)(nm:Y11)(op:Int)(ks:List E):Prop where
 bh:BH h id s
 gs:GS s
 wf:E.wf s.f (.mk k n nm op ks)
 dp:Es.dp ks<d
 len:s.ns.length+E.cost (.mk k n nm op ks)<=90000
def dU(h:Heap)(id:Nat)(s:BSt)(e:E)(v:Int)(h2:Heap):Prop:= ∃(g:Y15)(i:Int),BE h id s h2 g i e.cost/\SK g 1 v
theorem BE.get{h h2:Heap}{id:Nat}{s:BSt}{c:Nat}(x:BE h id s h2 A y c): ∃lv,h2.get id= .cells (({s with ns:=A,st:=y } :BSt).cells lv):=by
 obtain⟨_,⟨lv,g,_⟩,_⟩:=x.bh;exact⟨lv,g⟩
theorem E.cost4{k n:Int}{nm:Y11}{op:Int}{ks:List E}(h:k≠2/\k≠0):E.cost (.mk k n nm op ks)=4+Es.cost ks:=by
 rw [E.cost,if_neg IM]
theorem SK.kb{s k:Int}(h:SK A s k):0<=k/\k<A.length:=⟨h.1,h.2.1⟩
theorem kb1{a:Int}(h:0<=a/\a<A.length): ∀k∈ [a],0<=k/\k<A.length:=fun k q=>by rw [BO.1 q];exact h
theorem Ru{a b:Int}(h:0<=a/\a<A.length)(g:0<=b/\b<A.length): ∀k∈ [a,b],0<=k/\k<A.length:=fun k q=>by
 rcases BQ.1 q with rfl|q
 ·exact h
 ·exact kb1 g k q
theorem kb3{a b c:Int}(h:0<=a/\a<A.length)(g:0<=b/\b<A.length)(f:0<=c/\c<A.length): ∀k∈ [a,b,c],0<=k/\k<A.length:=fun k q=>by
 rcases BQ.1 q with rfl|q
 ·exact h
 ·exact Ru g f k q
theorem kb0 : ∀k∈ ([]:Y12),0<=k/\k<A.length:=fun k q=>by cases q
theorem BE.putE{h:Heap}{id:Nat}{s:BSt}{op im v t:Int}{ks ss:Y12}{h2:Heap}(b:BH h id s)(g:GS s)(p:aQ h id (s.pst ks) op im v h2)(hs:yP s.ns ks ss)(i:bC (eK s.ns ⟨op,im,ks⟩) op im ss=t)(h0:t≠0)
 (ho:op≠3/\op≠31) (hb:aR op/\aR im) (hl:ks.length<=40) (hn:s.ns.length<100000): ∃ns2,BE h id s h2 ns2 s.st 1/\SK ns2 t v:=⟨_,BE.put b g p hs i h0 ho hb hl hn⟩
theorem Xh{e:Nat}{op im:Int}{k:Y12}(h:op≠31/\op≠30/\op≠25):bC e op im k=dW op im k:=by
 unfold bC
 rw [if_neg h.1,if_neg h.2.1,if_neg h.2.2]
theorem fA{e:Nat}{im:Int} :bC e 1 im []=1:=by
 rw [Xh IN];simp [dW,jW,ar,dY]
theorem jU{e:Nat}{im:Int}(h:0<=im/\im<=5):bC e 2 im []=1:=by
 rw [Xh IN];simp [dW,jW,ar,dY,pS];omega
theorem a1I{e:Nat} :bC e 26 0 []=2:=by
 rw [Xh IN];simp [dW,jW,ar,dY,pS]
theorem xH{e:Nat}{op:Int}(h:4<=op/\op<=19):bC e op 0 [1,1]=1:=by
 rw [Xh IM];have g:Qy op:=by unfold Qy;omega
 refine Wy g ?_ ?_ IP
 ·unfold ar
  rw [if_neg IM,if_neg IM,if_pos IM];rfl
 ·unfold dY pS
  rw [decide_eq_true_eq]
  repeat' split
  all_goals omega
theorem d1M{e:Nat}{op:Int}(h:op=20\/op=21):bC e op 0 [1]=1:=by
 rcases h with rfl|rfl<;>(rw [Xh IN];decide)
theorem b4R{e:Nat} :bC e 22 0 [1,1,1]=1:=by rw [Xh IN];decide
theorem b4S{e:Nat} :bC e 22 0 [1,2,2]=2:=by rw [Xh IN];decide
theorem b4T{e:Nat}{im:Int}(h:0<=im/\im<=3):bC e 23 im [2,1]=1:=by
 rw [Xh IN];simp [dW,jW,ar,dY,pS];omega
theorem vB{e:Nat}{im:Int}(h:1<=im/\im<=1000016):bC e 27 im [2,1]=2:=by
 rw [Xh IN];simp [dW,jW,ar,dY,pS];omega
theorem a1J{e:Nat}{im:Int}(h:0<=im/\im<=3):bC e 28 im [2,1,1]=2:=by
 rw [Xh IN];simp [dW,jW,ar,dY,pS];omega
theorem c3F{e:Nat} :bC e 29 0 [2,1]=2:=by rw [Xh IN];decide
theorem Rv{e:Nat} :bC e 24 0 [2]=1:=by rw [Xh IN];decide
theorem b4U{e:Nat}{im:Int}(h:0<=im/\im<=255):bC e 3 im []=if im%16=0 then 2 else 1:=by
 rw [Xh IN];simp [dW,jW,ar,dY,pS];omega
theorem Rw{e:Nat}{im:Int}{m:Nat}(h:0<=im/\im<=7)(g:m<=6):bC e 30 im (2::List.replicate m 1)=2:=by
 unfold bC
 rw [if_neg IN,if_pos rfl,if_pos];refine⟨?_,?_⟩
 ·simp [qT];omega
 ·simp [dY,pS];omega
theorem b4V{e:Nat}{im:Int}{m:Nat}(h:0<=im/\im<=15)(g:1<=m)(h2:m<=16):bC e 31 im (Ym m)=3:=by
 unfold bC
 rw [if_pos rfl,if_pos];refine⟨Rk g h2,?_⟩;simp [dY,pS];omega
theorem rY{e:Nat}{im:Int}(h:0<=im/\im<=15)(h2:2*im+3<=e):bC e 25 im [3]=if im=0 then 2 else 1:=by
 unfold bC
 rw [if_neg IN,if_neg IN,if_pos rfl,if_pos ⟨rfl,h.1,h.2,h2⟩]
end Go.M10
end
section
namespace Go.M14
open Go.Pv Go.M13
def vok(H:List (Int×Int))(n:Int):Bool:=!(decide (n<1)||decide (n>H.length))
def vr(H:List (Int×Int))(n:Int):Int×Int:=if vok H n then H.getD (n-1).toNat (0,0)else(0,0)
def holds(k a b n:Int)(H:List (Int×Int))(L:Y12):Bool:=
 if vok H a=false then false
 else if k=1 then !contains (vr H a).1 (vr H a).2 0
 else if k=2 then decide (n<=(vr H a).1)
 else if k=3 then decide ((vr H a).2<=n)
 else if k=4 then vok H b&&!d1J (vr H a).1 (vr H a).2 (vr H b).1 (vr H b).2
 else if k=5 then decide (1<=b) && (decide (b<=L.length) && (decide (0<=(vr H a).1) &&decide ((vr H a).2<L.getD (b-1).toNat 0)))
 else false
end Go.M14
end
section
namespace Go.M14
open Go.Pv Go.M13 Go.M15 Go.M10
theorem mF{α:Type}{l:List α}{z:α}{q:Nat}(h:q<l.length):l.getD q z=l[q]:=by
 rw [AN,AA h];rfl
theorem b4W{l:Y15}{i:Nat}(hi:i<l.length)(h:(aK l).getD i 0≠0):(∀q∈l[i].ks,0<=q/\q<i/\(aK l).getD q.toNat 0≠0)/\(aK l).getD i 0=bC (eK l l[i]) l[i].op l[i].im (l[i].ks.map fun q=>(aK l).getD q.toNat 0):=by
 have e:=nP (AA hi);unfold cP at e;split at e
 ·rename_i ha;have j: ∀q∈l[i].ks,0<=q/\q<i/\(aK (l.take i)).getD q.toNat 0≠0:=fun q g=>by
   have:=rW (CA.1 ha q g);rw [bR,AW]at this;exact⟨this.1,IM,this.2.2⟩
  have hs: ∀q∈l[i].ks,(aK (l.take i)).getD q.toNat 0=(aK l).getD q.toNat 0:=fun q g=>by
   have:=j q g;exact(nL (jG (EH i l)) (by rw [bR,AW];omega)).symm
  have u:(l[i].ks.map fun q=>(aK (l.take i)).getD q.toNat 0)=l[i].ks.map fun q=>(aK l).getD q.toNat 0:=FH hs
  refine⟨fun q g=>⟨(j q g).1,(j q g).2.1,by rw [<-hs q g];exact(j q g).2.2⟩,?_⟩;rw [e,u];refine Ec fun p=>?_
  unfold eK
  have:l[i].ks≠[]:=fun h0=>by rw [h0]at p;cases p
  have g:l[i].ks.getD 0 0∈l[i].ks:=by
   match hk:l[i].ks,this with
   |a::r,_=>exact BJ
  have:=j _ g;rw [xG IM]
 ·exact absurd e h
theorem a1K{op im:Int}{k:Y12}(h:dW op im k≠0):jW op=true/\(k.length:Int)=ar op/\dY op im=true:=by
 unfold dW at h;split at h
 ·exact absurd rfl h
 ·rename_i c;simp only [not_or,Bool.not_eq_false,ne_eq,Decidable.not_not]at c;exact c
end Go.M14
end
section
namespace Go.M10
open Go.M15 Go.Pv Go.M14
def D7(l:Y15):Prop:=(∀n∈l,aR n.op/\aR n.im/\n.ks.length<=1000000)/\l.length<=1000000
structure WfN(l:Y15)(i:Nat):Prop where
 lt:i<l.length
 ks: ∀q∈ (l.getD i default).ks,0<=q/\q<i/\(aK l).getD q.toNat 0≠0
 lz:lf (l.getD i default).op=true->(l.getD i default).ks=[]
theorem wfN{l:Y15}{i:Nat}(hi:i<l.length)(h:(aK l).getD i 0≠0):WfN l i:=by
 have g:=b4W hi h;refine⟨hi,by rw [mF hi];exact g.1,fun hf=>?_⟩;rw [mF hi]at hf⊢;have e:=g.2;have p:=a0M hf;unfold bC at e;rw [if_neg IM,if_neg IM,if_neg IM]at e;have u:dW l[i].op l[i].im (l[i].ks.map fun q=>(aK l).getD q.toNat 0)≠0:=by rw [<-e];exact h
 have j:=(a1K u).2.1;rw [BF]at j;have:ar l[i].op=0:=by
  rcases p with o|o|o|o<;>rw [o]<;>rfl
 exact BZ IM
theorem Rx{l:Y15}{i:Nat}(j:i<l.length)(u: ∀k∈l[i].ks,0<=k/\k<i):pU l i=ndT (sC l) l[i]:=by
 have p:l.take i++ [l[i]]<+:l:=by
  rw [<-List.take_succ_eq_append_getElem j];exact EH _ _
 have g:(l.take i).length=i:=by rw [AW];omega
 rw [Rc p (by rw [AH,g,List.length_singleton];omega)];unfold pU
 rw [a0L,AN,BU (by rw [T7,g];exact AJ _),T7,g,EZ];show ndT _ l[i]=_;unfold ndT
 split
 ·rfl
 ·congr 2
  congr 1
  refine O0 fun k z=>?_
  have:=u k z;exact(Rc (EH i l) (i:=k.toNat) (by rw [g];omega)).symm
theorem WfN.leaf{l:Y15}{i:Nat}(w:WfN l i)(hf:lf (l.getD i default).op=true):pU l i=lfT (l.getD i default).op (l.getD i default).im:=by
 have hi:=w.lt;have g:=w.ks;rw [mF hi]at hf g⊢;rw [Rx hi fun k h=>⟨(g k h).1,(g k h).2.1⟩];unfold ndT
 rw [if_pos hf]
theorem WfN.node{l:Y15}{i:Nat}(w:WfN l i)(hf:lf (l.getD i default).op=false):pU l i=(40::(yZ (l.getD i default).op (l.getD i default).im++sN (sC l) (l.getD i default).ks))++ [41]:=by
 have hi:=w.lt;have g:=w.ks;rw [mF hi]at hf g⊢;rw [Rx hi fun k h=>⟨(g k h).1,(g k h).2.1⟩];unfold ndT
 rw [if_neg (by rw [hf];exact CG)];simp
def D8(l:Y15)(i:Int):Y11:=if 0<=i/\i< (l.length:Int)/\(aK l).getD i.toNat 0≠0/\(pU l i.toNat).length<=20000 then pU l i.toNat else []
end Go.M10
end
section
namespace Go.M10
open Go.M15 Go.Pv Go.M14 Go.M29
def J3(g:Heap)(id:Nat)(b:Y13):Prop:=g.get id= .cells (b.map IV.bool)/\id<g.next
def wA(l:Y15)(j g:Nat)(b:Y13):Prop:=g<=j+1/\b.length=j+1/\b[j]?=some true/\(∀p:Nat,b[p]?=some true->(aK l).getD p 0≠0)/\∀p:Nat,g<=p->p<=j->b[p]?=some true-> ∀k∈ (l.getD p default).ks,b[k.toNat]?=some true
theorem c0H{b:Y13}{q:Nat}(h:q<b.length):(b.map IV.bool).take q++ [IV.bool true]++(b.map IV.bool).drop (q+1)=(b.set q true).map IV.bool:=by
 rw [DO,if_pos h];simp
theorem xI{b:Y13}{q k:Nat}(h:b[k]?=some true):(b.set q true)[k]?=some true:=by
 rw [List.getElem?_set];split
 ·have:=(BB.1 h).1
  subst_vars
  rw [if_pos this]
 ·exact h
theorem wA.set{l:Y15}{j g q:Nat}{b:Y13}(h:wA l j g b)(G:q<g)(D:(aK l).getD q 0≠0):wA l j g (b.set q true):=
 ⟨h.1,by rw [FK];exact h.2.1,xI h.2.2.1,fun p e=>by
  by_cases c:p=q
  ·rw [c];exact D
  ·rw [ID (Ne.symm c)]at e;exact h.2.2.2.1 p e,fun p u z i k A=>xI (h.2.2.2.2 p u z (by rw [ID IM]at i;exact i) k A)⟩
def cR(b:Y13)(q:Nat):Y12:=((List.range q).filter fun p=>b[p]?==some true).map fun(p:Nat)=>(p:Int)
theorem a1L{b:Y13}{q:Nat}(h:b[q]?=some true):cR b (q+1)=cR b q++ [(q:Int)]:=by
 unfold cR
 rw [List.range_succ,List.filter_append,DE]
 congr 1
 simp [h]
theorem a1M{b:Y13}{q:Nat}(h:b[q]?=some false):cR b (q+1)=cR b q:=by
 unfold cR
 rw [List.range_succ,List.filter_append,DE];simp [h]
theorem qV{b:Y13}{q:Nat}{x:Int} :x∈cR b q ↔ ∃p:Nat,x=p/\p<q/\b[p]?=some true:=by
 unfold cR
 rw [EI]
 constructor
 ·rintro⟨p,g,rfl⟩;rw [GG,EU,beq_iff_eq]at g;exact⟨p,rfl,g⟩
 ·rintro⟨p,rfl,i,h2⟩;exact⟨p,by rw [GG,EU,beq_iff_eq];exact⟨i,h2⟩,rfl⟩
theorem Ee(b:Y13)(q:Nat):(cR b q).Pairwise (· < ·):=by
 unfold cR
 rw [List.pairwise_map];exact(List.Pairwise.filter _ List.pairwise_lt_range).imp (fun h=>IM)
theorem Eg(b:Y13)(q:Nat):(cR b q).length<=q:=by
 unfold cR
 rw [BF];have:=List.length_filter_le (fun p=>b[p]?==some true) (List.range q)
 rwa [HC]at this
def Xi(l:Y15)(j:Nat)(c:Y12):Prop:=(∀x∈c,0<=x/\x<=j/\(aK l).getD x.toNat 0≠0)/\(∀(q:Nat)(x:Int),c[q]?=some x-> ∀k∈ (l.getD x.toNat default).ks,∃p:Nat,p<q/\c[p]?=some k)/\(∃p:Nat,c[p]?=some (j:Int))/\c.length<=j+1
theorem wA.dep{l:Y15}{j:Nat}{b:Y13}(h:wA l j 0 b)(hj:j<l.length):Xi l j (cR b (j+1)):=by
 obtain⟨_,h2,X,T,Y⟩:=h;refine⟨fun x L=>?_,fun q x V k A=>?_,?_⟩
 ·obtain⟨p,rfl,K,u⟩:=qV.1 L;exact⟨IM,IM,T p u⟩
 ·obtain⟨O,e⟩:=BB.1 V;have L:x∈cR b (j+1):=by rw [<-e];exact AG O
  obtain⟨p,rfl,K,u⟩:=qV.1 L;rw [AE]at A;have Z:=(wfN IM (T p u)).ks k A;have D:=Y p (AR _) IM u k A;have G:k∈cR b (j+1):=qV.2 ⟨k.toNat,IM,IM,D⟩;obtain⟨i,g,z⟩:=CT.1 G;refine⟨i,?_,by rw [AA g,z]⟩;rcases BC i q with c|c
  ·exact c
  ·exfalso;rcases BC q i with d|d
   ·have:=(HH.1 (Ee b (j+1))) q i O g d;rw [e,z]at this;omega
   ·obtain rfl:i=q:=IM;rw [e]at z;omega
 ·have:(j:Int) ∈cR b (j+1):=qV.2 ⟨j,rfl,AQ _,X⟩;obtain⟨p,K,e⟩:=CT.1 this;exact⟨⟨p,by rw [AA K,e]⟩,Eg b (j+1)⟩
def DZ(l:Y15)(i:Int)(c:Y12):Prop:=(c=[]/\¬ (0<=i/\i< (l.length:Int)/\(aK l).getD i.toNat 0≠0)) \/ ((0<=i/\i< (l.length:Int)/\(aK l).getD i.toNat 0≠0)/\Xi l i.toNat c)
theorem Kt{b:Y13}{q:Nat}(h:q<b.length){x:Bool}(e:b[q]=x):(b.map IV.bool)[0+q*1]?=some (.bool x):=by
 rw [BT,AO,BL,AA h,e];rfl
def rZ(n:Nat):Int:=((min n 20001:Nat):Int)
theorem a1N{n:Nat}(h:n<=20001):rZ n=n:=by unfold rZ;rw [FJ h]
theorem Ry(n:Nat):0<=rZ n/\rZ n<=20001:=by unfold rZ;omega
theorem Rz(a b:Nat):(if 20001<rZ a+1+rZ b then 20001 else rZ a+1+rZ b)=rZ (a+(1+b)):=by unfold rZ;split<;>omega
theorem a1O{n:Nat} :20000<rZ n ↔ 20000<n:=by unfold rZ;omega
def SzY(l:Y15)(i:Nat)(c g:Y12):Prop:=g.length=l.length/\∀(q:Nat)(x:Int),q<i->c[q]?=some x->g[x.toNat]?=some (rZ (pU l x.toNat).length)
theorem SzY.set{l:Y15}{c g:Y12}(h:SzY l i c g){x:Int}(p:c[i]?=some x)(u:x.toNat<g.length):SzY l (i+1) c (g.set x.toNat (rZ (pU l x.toNat).length)):=by
 refine⟨by rw [FK];exact h.1,fun q y z j=>?_⟩;rw [List.getElem?_set];split
 ·rename_i e;rw [<-e]
 ·rcases BC q i with d|d
  ·exact h.2 q y d j
  ·obtain rfl:q=i:=IM;rw [p,AC]at j;subst j;rename_i e;exact absurd rfl e
theorem a1P{q:Nat}{v:Int}(h:q<K.length):(K.map (IV.int .i64)).take q++ [IV.int .i64 v]++(K.map (IV.int .i64)).drop (q+1)=(K.set q v).map (IV.int .i64):=by
 rw [DO,if_pos h];simp
theorem Ku{l:Y15}{ks:Y12}{k:Int}(h:k∈ks):(pU l k.toNat).length< (sN (sC l) ks).length:=by
 unfold sN
 induction ks with
 |nil=>cases h
 |cons a r ih=>
  rw [CU,AH,AK];rcases BQ.1 h with rfl|h
  ·show(((sC l).getD k.toNat []).length)<_;omega
  ·have:=ih h;omega
theorem WfN.len{l:Y15}{i:Nat}(w:WfN l i)(hf:lf (l.getD i default).op=false):(pU l i).length=(yZ (l.getD i default).op (l.getD i default).im).length+2+(sN (sC l) (l.getD i default).ks).length:=by
 rw [w.node hf];simp only [AH,AK,AY];omega
theorem WfN.kid{l:Y15}{i:Nat}(w:WfN l i){k:Int}(h:k∈ (l.getD i default).ks):(pU l k.toNat).length<=(pU l i).length:=by
 cases hf:lf (l.getD i default).op
 ·rw [w.len hf];have:=Ku (l:=l) h;omega
 ·rw [w.lz hf]at h
  cases h
def mY(l:Y15)(x:Int)(t:Nat):Nat:=if lf (l.getD x.toNat default).op=true then(lfT (l.getD x.toNat default).op (l.getD x.toNat default).im).length else(yZ (l.getD x.toNat default).op (l.getD x.toNat default).im).length+2+(sN (sC l) ((l.getD x.toNat default).ks.take t)).length
theorem a1Q{l:Y15}{x:Int}(w:WfN l x.toNat):mY l x (l.getD x.toNat default).ks.length=(pU l x.toNat).length:=by
 unfold mY
 cases hf:lf (l.getD x.toNat default).op
 ·rw [if_neg CG,w.len hf,DR]
 ·rw [if_pos rfl,w.leaf hf]
theorem Sa{l:Y15}{x:Int}{t:Nat}(w:WfN l x.toNat)(h:t< (l.getD x.toNat default).ks.length):mY l x (t+1)=mY l x t+(1+(pU l ((l.getD x.toNat default).ks[t]).toNat).length):=by
 unfold mY
 cases hf:lf (l.getD x.toNat default).op
 ·rw [if_neg CG,if_neg CG,uX h,AH,AH,List.length_singleton];unfold pU
  omega
 ·rw [w.lz hf]at h
  cases h
theorem b4X{op im:Int}(h:aR im)(hf:lf op=true):(lfT op im).length<=60:=by
 unfold lfT
 have h0:=h;unfold aR at h0;have j:=iS h;split
 ·omega
 split
 ·rw [AK];omega
 split
 ·have g:im.tdiv 16*16+im.tmod 16=im:=Int.tdiv_mul_add_tmod im 16;have i:im.tmod 16<16/\ -16<im.tmod 16:=by
   rcases Int.le_total 0 im with c|c
   ·have:=Int.tmod_lt_of_pos im (b:=16) IN;have:=GH (a:=im) 16 c;omega
   ·have:=Int.tmod_lt_of_pos (-im) (b:=16) IN;have:=GH (a:= -im) 16 IM;rw [Int.neg_tmod]at*
    omega
  have h2:=iS (n:=im.tdiv 16) IM;have l:=iS (n:=im.tmod 16) IM;rw [AK,AH,AK];omega
 ·decide
theorem b4Y{op im:Int}(h:aR im):(yZ op im).length<=60:=by
 unfold yZ
 have g:=iS h;have h2:=T8 op;rw [AH];split
 ·rw [AK];omega
 ·simp;omega
end Go.M10
end
end

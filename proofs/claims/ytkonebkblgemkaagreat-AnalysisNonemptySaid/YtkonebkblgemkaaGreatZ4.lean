/-
  Texts of this proof, one after the other.
  Conditions: none.
-/
import Derived.Test.YtkonebkblgemkaaGreatZ3
set_option linter.unusedVariables false
set_option linter.unusedSimpArgs false
set_option maxRecDepth 100000
set_option maxHeartbeats 4000000
noncomputable section
section
namespace Go.Pv
section
variable {E:Env} {M:Meta} {w:World} {f:FuncId} {o:Oper} {ev:Operand->Option TV} {ρ:Operand->Value} {pb:Nat->Nat}
def f1O(E:Env)(M:Meta)(w:World)(o:Oper)(ρ:Operand->Value)(pb:Nat->Nat)(tv:TV)(bx:Option (List IV)):Prop:=
 (bx=none/\∃r,(execOp ρ o).run E.P w= .ok (.value r) w/\TR M pb tv r) \/
 (∃cs d rc el,bx=some cs/\o.dst=some d/\tv= .l d 0/\(execOp ρ o).run E.P w= .ok (.value (.pointer (some ⟨w.heap.size,0,none⟩))) (w.alloc (.cells rc el))/\eB M cs rc.toList) \/
 (bx=none/\∀h,Inv M h w-> ∃w' M' x r,tv= .v x/\(execOp ρ o).run E.P w= .ok (.value r) w'/\VR M' x r/\Inv M' h w'/\Pres w.heap.size M h w M' h w')
theorem f1O.val{x:IV}{r:Value}(h:(execOp ρ o).run E.P w= .ok (.value r) w)(hv:VR M x r):f1O E M w o ρ pb (.v x) none:= .inl ⟨rfl,r,h,hv⟩
theorem e4U(him: ∀b o u,M.im b o=some u->w.cell? ⟨b,o,none⟩=some u)(hev: ∀x tv,ev x=some tv->TR M pb tv (ρ x)){tv:TV}{bx:Option (List IV)}
  (h:eN E f o ev=some (tv,bx)):f1O E M w o ρ pb tv bx:=by
 unfold eN at h
 cases hop:o.op with
 |move x=>
  simp only [hop]at h;obtain⟨a,h1,h2⟩:=h0W.1 h;simp at h2;obtain⟨rfl,rfl⟩:=h2;exact .inl ⟨rfl,ρ x,by simp [execOp,hop],hev _ _ h1⟩
 |assign x=>
  simp only [hop]at h;obtain⟨a,h1,h2⟩:=h0W.1 h;simp at h2;obtain⟨rfl,rfl⟩:=h2;exact .inl ⟨rfl,ρ x,by simp [execOp,hop],hev _ _ h1⟩
 |pick c a b=>
  simp only [hop]at h;split at h
  ·rename_i hc;obtain⟨q,h1,h2⟩:=h0W.1 h;simp at h2;obtain⟨rfl,rfl⟩:=h2;have hcv:VR M (.bool true) (ρ c):=hev _ _ hc;generalize hρ:ρ c=rcv at hcv
   cases hcv
   exact .inl ⟨rfl,ρ a,by simp [execOp,hop,hρ,asBool],hev _ _ h1⟩
  ·rename_i hc;obtain⟨q,h1,h2⟩:=h0W.1 h;simp at h2;obtain⟨rfl,rfl⟩:=h2;have hcv:VR M (.bool false) (ρ c):=hev _ _ hc;generalize hρ:ρ c=rcv at hcv
   cases hcv
   exact .inl ⟨rfl,ρ b,by simp [execOp,hop,hρ,asBool],hev _ _ h1⟩
  ·simp at h
 |alloc t=>
  simp only [hop]at h;split at h
  case h_2=>simp at h
  rename_i d hd;split at h
  case isFalse=>simp at h
  obtain⟨z,h1,h2⟩:=h0W.1 h;simp at h2;obtain⟨rfl,rfl⟩:=h2;obtain⟨i,r,h3,h4,h5,h6⟩:=eG (M:=M) h1;refine .inr (.inl ⟨_,d,r.cells,t,rfl,hd,rfl,?_,jI h5 h6⟩);simp only [execOp,hop];refine cD _ _ ?_;simp only [Instr.alloc,h1K,cJ w h3 h4,h1F,newVar,Go.newRow,run_newObj,h1R];rfl
 |box t x=>
  simp only [hop]at h;split at h
  case h_2=>simp at h
  rename_i d v hd hv;split at h
  case isFalse=>simp at h
  rename_i hc;simp at h;obtain⟨rfl,rfl⟩:=h;refine .inr (.inl ⟨_,d,(ρ x).cells,t,rfl,hd,rfl,?_,jI (bK hev hv) hc.2⟩);simp only [execOp,hop];refine cD _ _ ?_;simp only [Instr.box,newVar,Go.newRow,h1K,run_newObj,h1F,h1R];rfl
 |build t parts=>
  simp only [hop]at h;split at h
  case h_2=>simp at h
  rename_i z ps hz hp;have hp':PR M ps (parts.map fun(i,x)=>(i,ρ x)).toList:=by
   have:=wH (M:=M) hev hp;simpa using this
  split at h
  ·rename_i fs hu;split at h
   case isFalse=>simp at h
   rename_i ha;obtain⟨cs,h1,h2⟩:=h0W.1 h;simp at h2;obtain⟨rfl,rfl⟩:=h2;obtain⟨r,h3,h4⟩:=b3W (P:=E.P) w hz hp' (.inl ⟨fs,hu,ha,h1⟩);exact .val (by simp only [execOp,hop];exact cD _ _ h3) h4
  ·rename_i n e hu;split at h
   case h_2=>simp at h
   rename_i sz hs;obtain⟨cs,h1,h2⟩:=h0W.1 h;simp at h2;obtain⟨rfl,rfl⟩:=h2;obtain⟨r,h3,h4⟩:=b3W (P:=E.P) w hz hp' (.inr ⟨n,e,sz,hu,hs,h1⟩);exact .val (by simp only [execOp,hop];exact cD _ _ h3) h4
  ·simp at h
 |buildSlice t n parts=>
  simp only [hop]at h;split at h
  case h_2=>simp at h
  rename_i e d hu hd;split at h
  case isFalse=>simp at h
  split at h
  case h_2=>simp at h
  rename_i sz z ps hsz hz hp;split at h
  case isFalse=>simp at h
  rename_i hcond;obtain⟨cs,h1,h2⟩:=h0W.1 h;simp at h2;obtain⟨rfl,rfl⟩:=h2;have hp':PR M ps (parts.map fun(i,x)=>(i,ρ x)).toList:=by
   have:=wH (M:=M) hev hp;simpa using this
  obtain⟨ro,r1,r2,r3⟩:=rL (P:=E.P) (M:=M) w hu hsz hz hcond.1 hcond.2 hp' h1;have r2':eB M (match E.nf f with|true=>nY (rep n (uC E.P 8 e)) cs|false=>cs) ro.toList:=by
   split
   ·exact b3S r2
   ·exact r2
  have r3':(match E.nf f with|true=>nY (rep n (uC E.P 8 e)) cs|false=>cs).length=n*(sz+1):=by
   split
   ·rw [b3R];exact r3
   ·exact r3
  refine .inr (.inr ⟨rfl,fun h hI=>?_⟩);obtain⟨M',q1,q2,q3⟩:=e4O hI (NewBlk.alloc w (.cells ro e)) r3' (by omega) r2';exact⟨_,M',_,_,rfl,by simp only [execOp,hop];exact cD _ _ r1,q3,q1,q2⟩
 |load t a=>
  simp only [hop]at h;split at h
  case h_2=>simp at h
  rename_i cs off ha;obtain⟨v,h1,h2⟩:=h0W.1 h;simp at h2;obtain⟨rfl,rfl⟩:=h2;have hav:VR M (.vref cs off) (ρ a):=hev _ _ ha;generalize hρ:ρ a=ra at hav
  cases hav with
  | @vref _ _ b base rv him' hv hc=>
   have hcr:eB M cs ((List.range cs.length).map rv):=⟨⟨by simp,fun i p q=>by simpa using hv i p⟩,hc⟩;obtain⟨r,h3,h4⟩:=wD (P:=E.P) (w:=w) (b:=b) (base:=base) hcr (fun i hi=>by simp at hi;simpa using him _ _ _ (him' i hi)) h1;exact .val (by simp only [execOp,hop,hρ,Instr.loadAt,Instr.sureAddr];exact cD _ _ (by simpa using h3)) h4
 |nilCheck x=>
  simp only [hop]at h;split at h
  ·rename_i s off hx;simp at h;obtain⟨rfl,rfl⟩:=h;have:ρ x= .pointer (some ⟨pb s,off,none⟩):=hev _ _ hx;exact .inl ⟨rfl,_,by simp [execOp,hop,this],rfl⟩
  ·rename_i id off hx;simp at h;obtain⟨rfl,rfl⟩:=h;have hav:VR M (.ptr id off) (ρ x):=hev _ _ hx;generalize hρ:ρ x=ra at hav;have hav':=hav
   cases hav
   exact .val (by simp [execOp,hop,hρ]) hav'
  ·rename_i cs off hx;simp at h;obtain⟨rfl,rfl⟩:=h;have hav:VR M (.vref cs off) (ρ x):=hev _ _ hx;generalize hρ:ρ x=ra at hav;have hav':=hav
   cases hav
   exact .val (by simp [execOp,hop,hρ]) hav'
  ·rename_i g a b hx;simp at h;obtain⟨rfl,rfl⟩:=h;have hav:VR M (.func (.func g) a b) (ρ x):=hev _ _ hx;generalize hρ:ρ x=ra at hav;have hav':=hav
   cases hav
   exact .val (by simp [execOp,hop,hρ]) hav'
  ·rename_i t v hx;simp at h;obtain⟨rfl,rfl⟩:=h;have hav:VR M (.iface t v) (ρ x):=hev _ _ hx;generalize hρ:ρ x=ra at hav;have hav':=hav
   cases hav
   exact .val (by simp [execOp,hop,hρ]) hav'
  ·simp at h
 |binOp op t x y u=>
  simp only [hop]at h;split at h
  case h_2=>simp at h
  rename_i a b ha hb;obtain⟨v,h1,h2⟩:=h0W.1 h;simp at h2;obtain⟨rfl,rfl⟩:=h2;obtain⟨r,h3,h4⟩:=d3E (P:=E.P) w x y rfl (bK hev ha) (bK hev hb) h1;exact .val (by simp only [execOp,hop];exact cD _ _ h3) h4
 |unOp op t x=>
  simp only [hop]at h;split at h
  case h_2=>simp at h
  rename_i a ha;obtain⟨v,h1,h2⟩:=h0W.1 h;simp at h2;obtain⟨rfl,rfl⟩:=h2;obtain⟨r,h3,h4⟩:=e4M (P:=E.P) w (bK hev ha) h1;exact .val (by simp only [execOp,hop];exact cD _ _ h3) h4
 |convert s d x=>
  simp only [hop]at h;split at h
  case h_2=>simp at h
  rename_i a ha;obtain⟨v,h1,h2⟩:=h0W.1 h;simp at h2;obtain⟨rfl,rfl⟩:=h2;obtain⟨r,h3,h4⟩:=c9Q (P:=E.P) w him (bK hev ha) h1;exact .val (by simp only [execOp,hop];exact cD _ _ h3) h4
 |makeInterface t x=>
  simp only [hop]at h;split at h
  case h_2=>simp at h
  rename_i a hi ha;simp at h;obtain⟨rfl,rfl⟩:=h;obtain⟨d,hu,hd⟩:=oC hi;refine .val (r:= .iface t (ρ x)) ?_ (.iface (bK hev ha));simp only [execOp,hop];refine cD _ _ ?_
  cases d<;>first| (exact absurd (hd.1 ⟨_,rfl⟩) (by simp))|simp [Instr.makeInterface,run_underlying hu]
 |makeFunc fn a b=>
  simp only [hop]at h;split at h
  case h_2=>simp at h
  rename_i xs ys hx hy;simp at h;obtain⟨rfl,rfl⟩:=h;refine .val (r:= .func fn (a.map ρ) (b.map ρ)) (by simp only [execOp,hop];exact cD _ _ (by simp [Instr.makeFunc])) ?_;have h1:=mG hev hx;have h2:=mG hev hy;have:=a2G (fn:=fn) h1 h2;have e: ∀a:Array Operand,(a.toList.map ρ).toArray=a.map ρ:=fun a=>by apply h4V;simp
  rwa [e,e]at this
 |slice t x lo hi mx=>
  simp only [hop]at h;split at h
  case h_2=>simp at h
  rename_i a ha;obtain⟨v,h1,h2⟩:=h0W.1 h;simp at h2;obtain⟨rfl,rfl⟩:=h2;obtain⟨r,h3,h4⟩:=b9V (P:=E.P) w (bK hev ha) (wI hev lo) (wI hev hi) h1;exact .val (by simp only [execOp,hop];exact cD _ _ h3) h4
 |fieldAddr t x i=>
  simp only [hop]at h;split at h
  case h_2=>simp at h
  rename_i ft off a hf ha;split at h
  case h_2=>simp at h
  rename_i n hn;obtain⟨v,h1,h2⟩:=h0W.1 h;simp at h2;obtain⟨rfl,rfl⟩:=h2;obtain⟨fs,fx,hu,hfx,rfl,rfl⟩:=wJ hf;obtain⟨ii,hi1,hi2⟩:=dK hn;obtain⟨ad,he,ht⟩:=a0J h1 (hev _ _ ha);refine .inl ⟨rfl,_,?_,ht⟩;simp only [execOp,hop];refine cD _ _ ?_;simp [Instr.fieldAt,run_underlying hu,hfx,he,Instr.sureAddr,fieldPlace,cG hi1,hi2]
 |field t x i=>
  simp only [hop]at h;split at h
  case h_2=>simp at h
  rename_i ft off cs hf ha;obtain⟨v,h1,h2⟩:=h0W.1 h;simp at h2;obtain⟨rfl,rfl⟩:=h2;obtain⟨fs,fx,hu,hfx,rfl,rfl⟩:=wJ hf;obtain⟨rc,hr,hc⟩:=yO (bK hev ha);obtain⟨r,h3,h4⟩:=c5C (P:=E.P) (w:=w) hc h1;refine .val ?_ h4;simp only [execOp,hop];refine cD _ _ ?_;simp [Instr.field,run_underlying hu,hfx,hr,asAgg,h3]
 |indexAddr t x ix=>
  simp only [hop]at h;split at h
  ·rename_i i n e hi hu;obtain⟨k,hk⟩:=pT hi;have hkv:VR M (.int k i) (ρ ix):=hev _ _ hk;generalize hρi:ρ ix=ri at hkv
   cases hkv
   split at h
   case h_2=>simp at h
   rename_i sz a hs ha;split at h
   case isFalse=>simp at h
   rename_i hb;obtain⟨v,h1,h2⟩:=h0W.1 h;simp at h2;obtain⟨rfl,rfl⟩:=h2;obtain⟨ii,hi1,hi2⟩:=dK hs;obtain⟨ad,he,ht⟩:=a0J h1 (hev _ _ ha);refine .inl ⟨rfl,_,?_,ht⟩;simp only [execOp,hop];refine cD _ _ ?_;simp [Instr.indexAt,run_underlying hu,hρi,asIntOf,he,Instr.sureAddr,hb,cG hi1,hi2]
  ·rename_i i e hi hu;obtain⟨k,hk⟩:=pT hi;have hkv:VR M (.int k i) (ρ ix):=hev _ _ hk;generalize hρi:ρ ix=ri at hkv
   cases hkv
   split at h
   ·rename_i sz id' e' len z cs hs ha;split at h
    case isFalse=>simp at h
    rename_i hb;obtain⟨b1,b2,rfl⟩:=hb;simp at h;obtain⟨rfl,rfl⟩:=h;obtain⟨ii,hi1,hi2⟩:=dK hs;have hav:=bK hev ha;generalize hρ:ρ x=ra at hav
    cases hav with
    |vnil=>omega
    | @vslice _ _ _ _ cap _ a rv hn hlen ha' him' hv hc ht hf=>
     have hsp:=ha'.resolve_left (by omega);obtain⟨ab,ao,asp⟩:=a;obtain⟨hsp1,hsp2⟩:=hsp;simp only at hsp1;subst hsp1;refine .inl ⟨rfl,.pointer (some ⟨ab,ao+i.toNat*z,none⟩),?_,VR.vref rv him' hv hc⟩;simp only [execOp,hop];refine cD _ _ ?_;simp [Instr.indexAt,run_underlying hu,hρi,hρ,asIntOf,b1,b2,cG hi1,hi2,dA]
   ·rename_i sz id' off len z hs ha;split at h
    case isFalse=>simp at h
    rename_i hb;obtain⟨b1,b2,rfl⟩:=hb;simp at h;obtain⟨rfl,rfl⟩:=h;obtain⟨ii,hi1,hi2⟩:=dK hs;have hav:=bK hev ha;generalize hρ:ρ x=ra at hav
    cases hav with
    | @hslice _ _ _ _ cap b a hl ha' hlen=>
     obtain⟨rfl,hsp⟩:=ha'.resolve_left (by omega);refine .inl ⟨rfl,.pointer (some ⟨b,off+i.toNat*z,none⟩),?_,VR.ptr hl⟩;simp only [execOp,hop];refine cD _ _ ?_;simp [Instr.indexAt,run_underlying hu,hρi,hρ,asIntOf,b1,b2,cG hi1,hi2,dA]
   ·simp at h
  ·simp at h
 |index t x ix=>
  simp only [hop]at h;split at h
  ·rename_i i n e cs hi hu ha;obtain⟨k,hk⟩:=pT hi;have hkv:VR M (.int k i) (ρ ix):=hev _ _ hk;generalize hρi:ρ ix=ri at hkv
   cases hkv
   split at h
   case h_2=>simp at h
   rename_i sz hs;split at h
   case isFalse=>simp at h
   rename_i hb;obtain⟨v,h1,h2⟩:=h0W.1 h;simp at h2;obtain⟨rfl,rfl⟩:=h2;obtain⟨ii,hi1,hi2⟩:=dK hs;obtain⟨rc,hr,hc⟩:=yO (bK hev ha);obtain⟨r,h3,h4⟩:=c5C (P:=E.P) (w:=w) hc h1;refine .val ?_ h4;simp only [execOp,hop];refine cD _ _ ?_;simp [Instr.index,run_underlying hu,hρi,hr,asIntOf,hb,cG hi1,hi2,h3]
  ·rename_i i s hi hu ha;obtain⟨k,hk⟩:=pT hi;have hkv:VR M (.int k i) (ρ ix):=hev _ _ hk;generalize hρi:ρ ix=ri at hkv
   cases hkv
   split at h
   case isFalse=>simp at h
   rename_i hb;obtain⟨v,h1,h2⟩:=h0W.1 h;simp at h2;obtain⟨rfl,rfl⟩:=h2;have hav:=bK hev ha;generalize hρ:ρ x=ra at hav
   cases hav with
   |str b=>
    refine .val (r:= .int .u8 v.toNat) ?_ (.int _ _);simp only [execOp,hop];refine cD _ _ ?_;have h1':b[i.toNat]?=some v:=by
     have:i.toNat<b.size:=by
      have:=h2B.1 h1;simpa using this.1
     rw [getElem?_pos b i.toNat this];have h2:=h1;rw [h0U (by simpa using this)]at h2;simpa [ByteArray.getElem_eq_getElem_data]using h2
    simp [Instr.index,run_underlying hu,hρi,hρ,asIntOf,hb,h1']
  ·simp at h
 |extract x i=>
  simp only [hop]at h;split at h
  case h_2=>simp at h
  rename_i vs ha;obtain⟨v,h1,h2⟩:=h0W.1 h;simp at h2;obtain⟨rfl,rfl⟩:=h2;obtain⟨rc,hr,hc⟩:=b3Q (bK hev ha);obtain⟨r,h3,h4⟩:=hc.get h1;refine .val ?_ h4;simp only [execOp,hop];refine cD _ _ ?_;simp [Instr.extract,hr,h3]
 |typeAssert x s t ok=>
  simp only [hop]at h;split at h
  ·rename_i u v hi ha;obtain⟨d,hu,hd⟩:=oC hi;have hav:=bK hev ha;generalize hρ:ρ x=ra at hav
   cases hav with
   | @iface _ _ rv hv=>
    have hnd: ∀ms,d≠ .interface ms:=fun ms e=>absurd (hd.1 ⟨ms,e⟩) (by simp)
    split at h
    ·rename_i hut;subst hut;split at h
     ·rename_i hok;simp at h;obtain⟨rfl,rfl⟩:=h;refine .val (r:= .tuple #[rv,.bool true]) ?_ (by simpa using dT (cW.cons hv (cW.cons (.bool true) (cW.nil M))));simp only [execOp,hop];refine cD _ _ ?_
      cases d<;>first| (exact absurd rfl (hnd _))|simp [Instr.typeAssert,run_underlying hu,hρ,hok]
     ·rename_i hok;simp at h;obtain⟨rfl,rfl⟩:=h;refine .val (r:=rv) ?_ hv;simp only [execOp,hop];refine cD _ _ ?_
      cases d<;>first| (exact absurd rfl (hnd _))|simp [Instr.typeAssert,run_underlying hu,hρ,hok]
    ·rename_i hut;split at h
     case isFalse=>simp at h
     rename_i hok;obtain⟨z,h1,h2⟩:=h0W.1 h;simp at h2;obtain⟨rfl,rfl⟩:=h2;obtain⟨i,r,h3,h4,h5,h6⟩:=eG (M:=M) h1;refine .val (r:= .tuple #[r,.bool false]) ?_ (by simpa using dT (cW.cons h5 (cW.cons (.bool false) (cW.nil M))));simp only [execOp,hop];refine cD _ _ ?_
     cases d<;>first| (exact absurd rfl (hnd _))|simp [Instr.typeAssert,run_underlying hu,hρ,hok,hut,cJ w h3 h4]
  ·rename_i hi ha;obtain⟨d,hu,hd⟩:=oC hi;have hnd: ∀ms,d≠ .interface ms:=fun ms e=>absurd (hd.1 ⟨ms,e⟩) (by simp)
   have hav:=bK hev ha;generalize hρ:ρ x=ra at hav
   cases hav
   split at h
   case isFalse=>simp at h
   rename_i hok;obtain⟨z,h1,h2⟩:=h0W.1 h;simp at h2;obtain⟨rfl,rfl⟩:=h2;obtain⟨i,r,h3,h4,h5,h6⟩:=eG (M:=M) h1;refine .val (r:= .tuple #[r,.bool false]) ?_ (by simpa using dT (cW.cons h5 (cW.cons (.bool false) (cW.nil M))));simp only [execOp,hop];refine cD _ _ ?_
   cases d<;>first| (exact absurd rfl (hnd _))|simp [Instr.typeAssert,run_underlying hu,hρ,hok,cJ w h3 h4]
  ·simp at h
 |call c=>
  obtain⟨callee,args,argTypes⟩:=c;simp only [hop]at h
  cases callee with
  |value x=>simp at h
  |invoke x n=>simp at h
  |builtin b=>
   cases b
   case len=>
    simp only at h;split at h
    case h_2=>simp at h
    rename_i t x ht hx;obtain⟨y,hy,hyx⟩:=h2W.1 hx;have hav:=bK hev hyx;have h0:(args.map ρ)[0]?=some (ρ y):=by simp [hy]
    have hexec: ∀r,(Builtin.len_ argTypes o.type (args.map ρ)).run E.P w= .ok r w->(execOp ρ o).run E.P w= .ok (.value r) w:=by
     intro r hr;simp only [execOp,hop,resolve,invoke,h1K,h1R,h1F,builtin,hr]
    generalize hρ:ρ y=ra at hav h0;split at h
    ·rename_i s hu;simp at h;obtain⟨rfl,rfl⟩:=h
     cases hav
     refine .val (hexec _ (by simp [Builtin.len_,ht,hy,hρ,run_underlying hu];rfl)) ?_;simpa [goInt]using VR.int (M:=M) _ _
    ·rename_i e hu;simp at h;obtain⟨rfl,rfl⟩:=h
     cases hav
     exact .val (hexec _ (by simp [Builtin.len_,ht,hy,hρ,run_underlying hu];rfl)) (.int _ _)
    ·rename_i e i1 i2 len i3 hu;simp at h;obtain⟨rfl,rfl⟩:=h;obtain⟨a,cap,rfl,_⟩:=pV hav;exact .val (hexec _ (by simp [Builtin.len_,ht,hy,hρ,run_underlying hu];rfl)) (.int _ _)
    ·rename_i e i1 i2 len i3 i4 hu;simp at h;obtain⟨rfl,rfl⟩:=h;obtain⟨a,cap,rfl,_⟩:=pU hav;exact .val (hexec _ (by simp [Builtin.len_,ht,hy,hρ,run_underlying hu];rfl)) (.int _ _)
    ·rename_i k e hu;simp at h;obtain⟨rfl,rfl⟩:=h
     cases hav
     exact .val (hexec _ (by simp [Builtin.len_,ht,hy,hρ,run_underlying hu];rfl)) (.int _ _)
    ·rename_i n e hu;simp at h;obtain⟨rfl,rfl⟩:=h;exact .val (hexec _ (by simp [Builtin.len_,ht,hy,run_underlying hu];rfl)) (.int _ _)
    ·simp at h
   case min=>
    simp only at h;split at h
    case h_2=>simp at h
    rename_i x r hx;obtain⟨v,h1,h2⟩:=h0W.1 h;simp at h2;obtain⟨rfl,rfl⟩:=h2;obtain⟨q,rs',hrs,v1,v2⟩:=(mG hev hx).uncons;obtain⟨s,h3,h4⟩:=b3X (P:=E.P) w v1 v2 h1;refine .val (r:=s) ?_ h4;simp only [execOp,hop,resolve,invoke,h1K,h1R,h1F,builtin,Builtin.min_,h7S,hrs,h3]
   case max=>
    simp only at h;split at h
    case h_2=>simp at h
    rename_i x r hx;obtain⟨v,h1,h2⟩:=h0W.1 h;simp at h2;obtain⟨rfl,rfl⟩:=h2;obtain⟨q,rs',hrs,v1,v2⟩:=(mG hev hx).uncons;obtain⟨s,h3,h4⟩:=b3Y (P:=E.P) w v1 v2 h1;refine .val (r:=s) ?_ h4;simp only [execOp,hop,resolve,invoke,h1K,h1R,h1F,builtin,Builtin.max_,h7S,hrs,h3]
   all_goals simp at h
 |_=>simp [hop]at h
end
section
variable {P:Program} {M:Meta} {h:Heap} {w:World}
theorem b3Z{t tx ty e:TypeId}{i:TypeInfo}(ht:P.underlying t=some (.slice e))(hi:P.info? e=some i){base:Option Addr}{len cap:Nat}{r:Value}(hs:Src P i.size tx r 0 [] w)(hle:len<=cap):
  (Builtin.append_ #[t,tx] ty #[.slice base len cap,r]).run P w= .ok (.slice base len cap) w:=by
 rcases hs.kind with⟨e',hk⟩|hk<;>cases base<;>simp [Builtin.append_,run_underlying ht,run_underlying hk,sizeOf,typeInfo,hi,hs.len,hle,hs.cells,storeCells]
theorem d3H(l:List Value)(o:Nat)(c:List Value)(k:Nat)(hk:k=o+c.length)(ho:o<=l.length):(oB l o c).take k=l.take o++c:=by
 subst hk;unfold oB
 rw [h2Y (by simp;omega)];rw [h1H (by simp;omega)]
theorem c9S(a:Inv M h w){way sz bytes:Nat}{t tx ty e:TypeId}{i:TypeInfo}{z:Value}{du:TypeDesc}{s x v:IV}{rs rx:Value}{h':Heap}(ht:P.underlying t=some (.slice e))(hi:P.info? e=some i)(hsz:i.size=sz+1)(hby:i.bytes=bytes+1)
  (hz:i.zero=some z) (hzl:z.cells.size=sz+1) (hu:P.underlying tx=some du) (hk:lX du=true) (hs:VR M s rs) (hx:VR M x rx) (happ:kP h way (sz+1) (bytes+1) s x=some (v,h')):
  ∃r w' M',(Builtin.append_ #[t,tx] ty #[rs,rx]).run P w= .ok r w'/\VR M' v r/\Inv M' h' w'/\Pres w.heap.size M h w M' h' w':=by
 unfold kP at happ
 cases hsrc:fO h (sz+1) x with
 |none=>simp [hsrc]at happ
 |some q=>
  obtain⟨n,xs⟩:=q;simp only [hsrc]at happ;obtain⟨news,hc,hS⟩:=c5E (P:=P) a hu hk hx hsrc;have hxl:xs.length=n*(sz+1):=(b0G (P:=P) a hx hsrc).1;have hnl:news.length=n*(sz+1):=by rw [<-hc.len,hxl]
  rw [<-hsz]at hS;have hzero: ∀m,(Builtin.zeroCells z.cells m).size=m*(sz+1):=fun m=>by rw [size_zeroCells,hzl]
  split at happ
  ·
   rename_i hn0;subst hn0;have hnews:news=[]:=by simpa using hnl
   subst hnews;have fin:v=s->h'=h-> ∀base len cap,rs= .slice base len cap->len<=cap-> ∃r w' M',(Builtin.append_ #[t,tx] ty #[rs,rx]).run P w= .ok r w'/\VR M' v r/\Inv M' h' w'/\Pres w.heap.size M h w M' h' w':=by
    intro e1 e2 base len cap e3 hle;subst e1;subst e2;subst e3;exact⟨_,w,M,b3Z ht hi hS hle,hs,a,Pres.refl _ _ _ _⟩
   split at happ
   ·simp at happ
    cases hs
    exact fin happ.1.symm happ.2.symm _ _ _ rfl (h1D _)
   ·split at happ
    case isFalse=>simp at happ
    simp at happ;obtain⟨ad,cap,e3,hle,_⟩:=pU hs;exact fin happ.1.symm happ.2.symm _ _ _ e3 hle
   ·split at happ
    case isFalse=>simp at happ
    simp at happ;obtain⟨ad,cap,e3,hle⟩:=pV hs;exact fin happ.1.symm happ.2.symm _ _ _ e3 hle
   ·simp at happ
  ·rename_i hn0;have hn:0<n:=by omega
   split at happ
   ·
    split at happ
    case isFalse=>simp at happ
    rename_i hb;simp only [h0V]at happ
    cases hs
    have hfit:Builtin.nextslicecap (0+n) 0*i.bytes<=281474976710656:=growslice_fits (by omega) (by rw [hby];simpa using hb);have h63:((0+n:Nat):Int)<=9223372036854775807:=by
     have:n*1<=n*(bytes+1):=h5A _ (by omega);omega
    have hrun:=run_append_grow_src (P:=P) w t tx ty e i z ht hi hz none 0 0 [] (run_firstCells_none w.drew i.size 0 0 0) rx n news hS (by omega) h63 hfit;simp only [h3U,h1Q]at hrun;have hge:=grownCap_ge w n 0 e;have hcap:grownCap w n 0 e*(sz+1)<=(news.toArray++Builtin.zeroCells z.cells (grownCap w n 0 e-n)).size:=by
     simp only [h5H,h4B,hnl,hzero];rw [<-Nat.add_mul];exact h2Q _ (by omega)
    obtain⟨M',r1,r2,r3⟩:=oO a way (fz:=(0,0)) (rM w _) (.inl (h1D _)) hxl hge hcap (by
     rw [hxl,<-hnl];simpa using hc)
    rw [happ]at r1 r2 r3;exact⟨_,_,M',hrun,r3,r1,r2⟩
   ·
    rename_i len z' cs;split at happ
    case isFalse=>simp at happ
    rename_i hcond;obtain⟨rfl,hb⟩:=hcond;simp only [h0V]at happ;have hmul:(len+n)*(sz+1)=len*(sz+1)+n*(sz+1):=Nat.add_mul _ _ _
    cases hs with
    | @vslice _ _ _ _ cap _ ad rv hcl hlen had him hv hcc htp hfl=>
     have hcap0:cap=len:=by
      rcases hfl rfl with h0| ⟨_,h0,_⟩
      ·simp at h0
      ·exact h0
     subst hcap0;have hfit:Builtin.nextslicecap (cap+n) cap*i.bytes<=281474976710656:=growslice_fits (by omega) (by rw [hby];exact hb);have h63:((cap+n:Nat):Int)<=9223372036854775807:=by
      have:(cap+n)*1<=(cap+n)*(bytes+1):=h5A _ (by omega);omega
     have hcr:eB M cs ((List.range cs.length).map rv):=⟨⟨by simp,fun i p q=>by simpa using hv i p⟩,hcc⟩;have hol:((List.range cs.length).map rv).length=cap*i.size:=by rw [hsz];simp;omega
     have hold: ∀j v,((List.range cs.length).map rv)[j]?=some v->w.drew.cell? (ad.add j)=some v:=by
      intro j v hj;obtain⟨h1,h2⟩:=h2B.1 hj;simp at h1 h2;have hm0:cap≠0:=by
       intro e;subst e;simp at hcl;rw [hcl]at h1;simp at h1
      obtain⟨hsp,_⟩:=had.resolve_left hm0;obtain⟨ab,ao,asp⟩:=ad;simp only at hsp;subst hsp;rw [dA,<-h2];exact a.im _ _ _ (him j h1)
     have hrun:=run_append_grow_src (P:=P) w t tx ty e i z ht hi hz (some ad) cap cap _ (run_firstCells_some w.drew i.size cap ad cap cap _ hol hold) rx n news hS (by omega) h63 hfit;have hge:=grownCap_ge w (cap+n) cap e;have hsr:((((List.range cs.length).map rv)++news).toArray++Builtin.zeroCells z.cells (grownCap w (cap+n) cap e- (cap+n))).size=grownCap w (cap+n) cap e*(sz+1):=by
      have h2:(cap+n)*(sz+1)+(grownCap w (cap+n) cap e- (cap+n))*(sz+1)=grownCap w (cap+n) cap e*(sz+1):=by
       rw [<-Nat.add_mul];congr 1;omega
      simp only [h5H,h4B,h1E,hol,hsz,hnl,hzero];omega
     have hap:=hcr.append hc;obtain⟨M',r1,r2,r3⟩:=oO a way (fz:=(0,0)) (cs:=cs++xs) (len:=cap+n) (sz:=sz+1) (rM w _) (.inl (h1D _)) (by simp;omega) hge (by rw [hsr];exact h1D _) (by
      have e1:(cs++xs).length=(((List.range cs.length).map rv)++news).length:=hap.len;rw [h7D,h2Y (by simpa using h6V e1),h1H (by simpa using h6V e1.symm)];exact hap)
     rw [happ]at r1 r2 r3;exact⟨_,_,M',hrun,r3,r1,r2⟩
   ·
    rename_i id e' len z' cs;split at happ
    case h_2=>simp at happ
    rename_i m hg;split at happ
    case isFalse=>simp at happ
    rename_i hcond;obtain⟨rfl,rfl,hb⟩:=hcond;simp only [h0V,h2M]at happ;obtain⟨rfl,rfl⟩:=happ;obtain⟨t0,b,pos,rc,t1,t2,t3,t4⟩:=a.tips id m hg
    cases hs with
    | @vslice _ _ _ _ cap _ ad rv hcl hlen had him hv hcc htp hfl=>
     obtain⟨p1,p0,p2,p3⟩:=htp id rfl;have hmul:(len+n)*(sz+1)=len*(sz+1)+n*(sz+1):=Nat.add_mul _ _ _;have hk0:0<n*(sz+1):=h9A hn (by omega)
     by_cases hroom:len+n<=cap
     ·obtain⟨hsp,n0,hb0,hb1⟩:=had.resolve_left (by omega);have hcur:=(p3 t0.symm).resolve_left (by omega);obtain⟨ab,ao,asp⟩:=ad;simp only at hsp hb0 hb1 hcur him;subst hsp;rw [t1]at hcur;simp at hcur;obtain⟨rfl,rfl⟩:=hcur;rw [t2.bsz]at hb0;simp at hb0;subst hb0;have hcm:(len+n)*(sz+1)<=cap*(sz+1):=h2Q _ hroom;obtain⟨el,fz,hbk⟩:=t2.at_;have hrun:=run_append_room_src (P:=P) w t tx ty e i ht hi b ao len cap rx n news hS hroom
       (by
        intro j hj;rw [hnl]at hj;rw [hsz];simp [World.cell?,hbk,show ao+len*(sz+1)+j<rc.size by omega])
       (by
        intro j hj;rw [hnl]at hj;rw [hsz];exact t2.free _ (by omega))
      rw [hsz]at hrun;obtain⟨rc',s1,s2⟩:=iB b news (ao+len*(sz+1)) w rc el fz hbk (by rw [hnl];omega);have hsize:rc'.size=rc.size:=by
       have:=congrArg List.length s2;rw [nO _ _ _ (by rw [hnl];simp;omega)]at this;simpa using this
      have hfrz: ∀j,(w.setCells b (ao+len*(sz+1)) news).frozen? ⟨b,j,none⟩=w.frozen? ⟨b,j,none⟩:=fun j=>World.frozen?_setCells b _ _ _ _
      obtain⟨M',q1,q2,q3,q4,q5,q6,q7⟩:=d3G a (k:=n*(sz+1)) hg t1 t2 ⟨el,fz,s1⟩ (fun j hj=>by rw [hfrz];exact t2.free j (by omega)) hsize (by rw [hcl];omega)
       (fun j hj=>by
        rw [<-Array.getElem?_toList,<-Array.getElem?_toList,s2];unfold oB
        rw [h1Z (by simp;omega),h1Z (by simp;omega),h4H,if_pos (by omega)]) hk0
       (fun k hk=>fB b _ _ _ k hk) (fS b _ _ _) (fT b _ _ _)
      refine⟨_,_,M',hrun,?_,q1,q2⟩;have hE:=q2.ext;refine .vslice ⟨b,ao,none⟩ (fun j=>if j<cs.length then rv j else news.getD (j-cs.length) undef) (by simp;omega) hroom (.inr ⟨rfl,rc.size,by rw [q6];exact t2.bsz,hb1⟩) ?_ ?_ ?_ ?_ (by simp)
      ·intro j hj;simp only [h1E]at hj
       by_cases hlt:j<cs.length
       ·simp only [hlt,if_true];exact hE.im _ _ _ (him j hlt)
       ·simp only [hlt,if_false];have hq:=q7 (j-cs.length) (by omega);rw [show ao+cs.length+(j-cs.length)=ao+j by omega]at hq;rw [hq,<-Array.getElem?_toList,s2];unfold oB
        rw [h1Z (by simp;omega),h1V (by simp;omega)];simp only [h1Y,h4Z];rw [show ao+j-min (ao+len*(sz+1)) rc.size=j-cs.length by omega];rw [h0U (by omega)];simp [show j-cs.length<news.length by omega]
      ·intro j hj;simp only [h1E]at hj
       by_cases hlt:j<cs.length
       ·rw [h7T hlt];simp only [hlt,if_true];exact(hv j hlt).mono hE
       ·rw [h7P (by omega)];simp only [hlt,if_false];have:=(hc.1.2 (j-cs.length) (by omega) (by omega)).mono hE;simpa [show j-cs.length<news.length by omega]using this
      ·intro j hj;rw [h8V];split
       ·exact hcc _ _
       ·exact hc.2 _ _
      ·intro k ek;simp at ek;subst ek;refine⟨by rw [q5];exact p1,by simp;omega,by rw [q3];exact h1D _,fun _=> .inr ?_⟩;rw [q4];simp;omega
     ·
      have hfit:Builtin.nextslicecap (len+n) cap*i.bytes<=281474976710656:=growslice_fits (by omega) (by rw [hby];exact hb);have h63:((len+n:Nat):Int)<=9223372036854775807:=by
       have:(len+n)*1<=(len+n)*(bytes+1):=h5A _ (by omega);omega
      have hcr:eB M cs ((List.range cs.length).map rv):=⟨⟨by simp,fun i p q=>by simpa using hv i p⟩,hcc⟩;have hol:((List.range cs.length).map rv).length=len*i.size:=by rw [hsz];simp;omega
      have hold: ∀j v,((List.range cs.length).map rv)[j]?=some v->w.drew.cell? (ad.add j)=some v:=by
       intro j v hj;obtain⟨h1,h2⟩:=h2B.1 hj;simp at h1 h2;have hm0:cap≠0:=by
        intro e;have:len=0:=by omega
        subst this;simp at hcl;rw [hcl]at h1;simp at h1
       obtain⟨hsp,_⟩:=had.resolve_left hm0;obtain⟨ab,ao,asp⟩:=ad;simp only at hsp;subst hsp;rw [dA,<-h2];exact a.im _ _ _ (him j h1)
      have hrun:=run_append_grow_src (P:=P) w t tx ty e i z ht hi hz (some ad) len cap _ (run_firstCells_some w.drew i.size len ad len cap _ hol hold) rx n news hS (by omega) h63 hfit;have hge:=grownCap_ge w (len+n) cap e;have hsr:((((List.range cs.length).map rv)++news).toArray++Builtin.zeroCells z.cells (grownCap w (len+n) cap e- (len+n))).size=grownCap w (len+n) cap e*(sz+1):=by
       have h2:(len+n)*(sz+1)+(grownCap w (len+n) cap e- (len+n))*(sz+1)=grownCap w (len+n) cap e*(sz+1):=by
        rw [<-Nat.add_mul];congr 1;omega
       simp only [h5H,h4B,h1E,hol,hsz,hnl,hzero];omega
      have hgem:(len+n)*(sz+1)<=grownCap w (len+n) cap e*(sz+1):=h2Q _ hge;obtain⟨M',q1,q2,q3,q4,q5,q6,q7⟩:=e4Q a (fz:=(0,0)) (k:=n*(sz+1)) (n:=(len+n)*(sz+1)) hg (rM w _) (.inl (h1D _)) (by rw [hsr];exact hgem) hk0;refine⟨_,_,M',hrun,?_,q1,q2⟩;have hE:=q2.ext;have hap:=(hcr.append hc).mono hE;refine .vslice ⟨w.heap.size,0,none⟩ (fun j=>(((List.range cs.length).map rv)++news).getD j undef) (by simp;omega) hge (.inr ⟨rfl,_,q6,by rw [hsr];simp⟩) ?_ ?_ hap.2 ?_ (by simp)
      ·intro j hj;have hj':=hj;simp only [h1E]at hj';have hlt:j< (((List.range cs.length).map rv)++news).length:=by rw [<-hap.len];exact hj
       simp only [h1Q];rw [q7 j (by omega),h7J (by simpa using hlt)];rw [h4I,h0U hlt];simp only [h1A];rw [h0U hlt];rfl
      ·intro j hj;have hlt:j< (((List.range cs.length).map rv)++news).length:=by rw [<-hap.len];exact hj
       have:=hap.1.2 j hj hlt;simp only [h1A];rw [h0U hlt];exact this
      ·intro k ek;simp at ek;subst ek;refine⟨by rw [q5];exact p1,by simp;omega,by rw [q3];exact h1D _,fun _=> .inr ?_⟩;rw [q4];simp;omega
   ·
    rename_i id off len z';split at happ
    case h_2=>simp at happ
    rename_i cs hg;split at happ
    case isFalse=>simp at happ
    rename_i hcond;obtain⟨rfl,rfl,hcl,hb⟩:=hcond;simp only [h0V,h2M]at happ;obtain⟨rfl,rfl⟩:=happ;obtain⟨b',rc,l1,l2,l3,l4,l5⟩:=a.row hg;have hmul:(len+n)*(sz+1)=len*(sz+1)+n*(sz+1):=Nat.add_mul _ _ _;have hlen':(cs.take (len*(sz+1))++xs).length=(len+n)*(sz+1):=by simp;omega
    have l4':eB M (cs.take (len*(sz+1))) (rc.toList.take (len*(sz+1))):=by
     have:=l4.take (len*(sz+1))
     rwa [h8K,h8F hcl]at this
    cases hs with
    | @hslice _ _ _ _ cap b ad hl had hlen=>
     rw [hl]at l1;simp at l1;subst l1
     by_cases hroom:len+n<=cap
     ·obtain⟨rfl,n0,hb0,hb1⟩:=had.resolve_left (by omega);rw [l2.bsz]at hb0;simp at hb0;subst hb0;have hcm:(len+n)*(sz+1)<=cap*(sz+1):=h2Q _ hroom;obtain⟨el,fz,hbk⟩:=l2.at_;have hrun:=run_append_room_src (P:=P) w t tx ty e i ht hi b 0 len cap rx n news hS hroom
       (by
        intro j hj;rw [hnl]at hj;rw [hsz];simp [World.cell?,hbk,show len*(sz+1)+j<rc.size by omega])
       (by
        intro j hj;rw [hnl]at hj;rw [hsz];exact l2.free _ (by omega))
      rw [hsz]at hrun;obtain⟨rc',s1,s2⟩:=iB b news (0+len*(sz+1)) w rc el fz hbk (by rw [hnl];omega);have hsize:rc'.size=rc.size:=by
       have:=congrArg List.length s2;rw [nO _ _ _ (by rw [hnl];simp;omega)]at this;simpa using this
      have hfrz: ∀j,(w.setCells b (0+len*(sz+1)) news).frozen? ⟨b,j,none⟩=w.frozen? ⟨b,j,none⟩:=fun j=>World.frozen?_setCells b _ _ _ _
      obtain⟨M',q1,q2,q3,q4⟩:=b9X a (cs':=cs.take (len*(sz+1))++xs) hg hl (fun k hk=>fB b _ _ _ k hk) (fS b _ _ _) (fT b _ _ _)
       ⟨⟨el,fz,s1⟩,fun j hj=>by rw [hfrz];exact l2.free j (by omega),by rw [hsize];exact l2.bsz⟩ (by omega) (by
        rw [s2,hlen',d3H _ _ _ _ (by rw [hnl];omega) (by simp;omega)];rw [h1Q];exact l4'.append hc)
      exact⟨_,_,M',hrun,.hslice _ q3 (.inr ⟨rfl,_,q4,by rw [hsize];omega⟩) hroom,q1,q2⟩
     ·have hfit:Builtin.nextslicecap (len+n) cap*i.bytes<=281474976710656:=growslice_fits (by omega) (by rw [hby];exact hb);have h63:((len+n:Nat):Int)<=9223372036854775807:=by
       have:(len+n)*1<=(len+n)*(bytes+1):=h5A _ (by omega);omega
      have hol:(rc.toList.take (len*(sz+1))).length=len*i.size:=by rw [hsz];simp;omega
      have hold: ∀j v,(rc.toList.take (len*(sz+1)))[j]?=some v->w.drew.cell? (ad.add j)=some v:=by
       intro j v hj;obtain⟨h1,h2⟩:=h2B.1 hj;have hm0:cap≠0:=by
        intro e;have:len=0:=by omega
        subst this;rw [hol]at h1;simp at h1
       obtain⟨rfl,_⟩:=had.resolve_left hm0;rw [dA];have h1':j< (rc.toList.take cs.length).length:=by simp at h1⊢;omega
       have:=l5 j h1';rw [<-h2];simpa using this
      have hrun:=run_append_grow_src (P:=P) w t tx ty e i z ht hi hz (some ad) len cap _ (run_firstCells_some w.drew i.size len ad len cap _ hol hold) rx n news hS (by omega) h63 hfit;have hge:=grownCap_ge w (len+n) cap e;have hsr:(((rc.toList.take (len*(sz+1)))++news).toArray++Builtin.zeroCells z.cells (grownCap w (len+n) cap e- (len+n))).size=grownCap w (len+n) cap e*(sz+1):=by
       have h2:(len+n)*(sz+1)+(grownCap w (len+n) cap e- (len+n))*(sz+1)=grownCap w (len+n) cap e*(sz+1):=by
        rw [<-Nat.add_mul];congr 1;omega
       simp only [h5H,h4B,h1E,hol,hsz,hnl,hzero];omega
      have hgem:(len+n)*(sz+1)<=grownCap w (len+n) cap e*(sz+1):=h2Q _ hge;have hap:=l4'.append hc;obtain⟨M',q1,q2,q3,q4⟩:=c9R a (fz:=(0,0)) (cs':=cs.take (len*(sz+1))++xs) hg (rM w _) (.inl (h1D _)) (by rw [hsr,hlen'];exact hgem) (by
       have e1:(cs.take (len*(sz+1))++xs).length=((rc.toList.take (len*(sz+1)))++news).length:=hap.len;have e3: ∀X:List Value,X.toArray.toList.take X.length=X:=fun X=>by simp
       rw [h7D,h2Y (h6V e1),e1,e3];exact hap)
      exact⟨_,_,M',hrun,.hslice _ q3 (.inr ⟨rfl,_,q4,by rw [hsr];simp⟩) hge,q1,q2⟩
   ·simp at happ
end
section
variable {M:Meta} {h:Heap} {w:World}
theorem b0H{d:TypeDesc}{k v:IV}{rk rv:Value}(hk:VR M k rk)(hv:VR M v rv): ∀{es es':List (IV×IV)}{ents:List MapEntry}(i:Nat),uF M es ents->oK d k v es=some es'->
  (∃j e u,ents[j]?=some e/\Instr.findNow d rk ents i=some (some (i+j,u))/\e.key=rk/\(∀n,Instr.sameBits n e.key rk=true)/\uF M es' (ents.modify j fun e=> {e with key:=rk,val:=rv })) \/
  (Instr.findNow d rk ents i=some none/\es'=es++ [(k,v)])
 | [],es',ents,i,hm,h=>by
  have:ents=[]:=by have:=hm.len;simpa using this.symm
  subst this;simp [oK]at h;subst h;exact .inr ⟨rfl,rfl⟩
 | (x,y)::es,es',ents,i,hm,h=>by
  obtain⟨e,q,rfl,k1,v1,h2⟩:=hm.uncons;unfold oK at h;split at h
  ·rename_i hs;simp at h;subst h;obtain⟨s1,s2⟩:=jW hs hk k1;obtain⟨_,s4,s5⟩:=s2 rfl;refine .inl ⟨0,e,e.val,rfl,by simp [Instr.findNow,s1],s4.symm,s5,?_⟩;exact uF.cons hk hv h2
  ·rename_i hs;obtain⟨s1,_⟩:=jW hs hk k1;obtain⟨r,r1,r2⟩:=h0W.1 h;subst r2;rcases b0H hk hv (i+1) h2 r1 with⟨j,e',u,p1,p2,p3,p4,p5⟩| ⟨p1,rfl⟩
   ·refine .inl ⟨j+1,e',u,by simpa using p1,?_,p3,p4,uF.cons k1 v1 p5⟩;simp [Instr.findNow,s1,p2];omega
   ·refine .inr ⟨?_,rfl⟩;simp [Instr.findNow,s1,p1]
  ·simp at h
theorem c5F{d:TypeDesc}{k v:IV}{rk rv:Value}(hk:VR M k rk)(hv:VR M v rv): ∀{es es':List (IV×IV)}{ents:List MapEntry}(i:Nat){y:IV},uF M es ents->fU d k es=some (some y)->oK d k v es=some es'->
  ∃e u,ents[kO d k es]?=some e/\Instr.findNow d rk ents i=some (some (i+kO d k es,u))/\VR M y u/\u=e.val/\e.key=rk/\(∀n,Instr.sameBits n e.key rk=true)/\uF M es' (ents.modify (kO d k es) fun e=> {e with key:=rk,val:=rv })
 | [],es',ents,i,y,hm,hf,h=>by simp [fU]at hf
 | (x,z)::es,es',ents,i,y,hm,hf,h=>by
  obtain⟨e,q,rfl,k1,v1,h2⟩:=hm.uncons;unfold oK at h;unfold fU at hf;unfold kO
  split at h
  ·rename_i hs;simp only [hs,h0V]at hf h;subst h;subst hf;obtain⟨s1,s2⟩:=jW hs hk k1;obtain⟨_,s4,s5⟩:=s2 rfl;simp only [hs];exact⟨e,e.val,rfl,by simp [Instr.findNow,s1],v1,rfl,s4.symm,s5,uF.cons hk hv h2⟩
  ·rename_i hs;simp only [hs]at hf;obtain⟨s1,_⟩:=jW hs hk k1;obtain⟨r,r1,r2⟩:=h0W.1 h;subst r2;obtain⟨e',u,p1,p2,p3,p4,p5,p6,p7⟩:=c5F hk hv (i+1) h2 hf r1;simp only [hs];refine⟨e',u,by simpa using p1,?_,p3,p4,p5,p6,uF.cons k1 v1 p7⟩;simp [Instr.findNow,s1,p2];omega
  ·simp at h
theorem c9T{d:TypeDesc}{k:IV}{rk:Value}(hk:VR M k rk){es:List (IV×IV)}{ents:List MapEntry}(hm:uF M es ents)(hf:fU d k es=some none):Instr.findNow d rk ents 0=some none:=tD hk 0 hm hf
theorem d3I{v:IV}{rv:Value}(hv:VR M v rv): ∀{es:List (IV×IV)}{ents:List MapEntry}(n:Nat),uF M es ents->uF M (nN v n es) (ents.modify n fun e=> {e with val:=rv })
 | [],ents,n,hm=>by
  have:ents=[]:=by have:=hm.len;simpa using this.symm
  subst this;simpa [nN]using hm
 | (x,z)::es,ents,0,hm=>by
  obtain⟨e,q,rfl,k1,v1,h2⟩:=hm.uncons;exact uF.cons k1 hv h2
 | (x,z)::es,ents,n+1,hm=>by
  obtain⟨e,q,rfl,k1,v1,h2⟩:=hm.uncons;exact uF.cons k1 v1 (d3I hv n h2)
def b9Y(E:Env)(M:Meta)(h:Heap)(w:World)(o:Oper)(ρ:Operand->Value)(v:Option TV)(h':Heap):Prop:=
 ∃w' M',Inv M' h' w'/\Pres w.heap.size M h w M' h' w'/\
  ((∃x r,v=some (.v x)/\(execOp ρ o).run E.P w= .ok (.value r) w'/\VR M' x r) \/ (v=none/\(execOp ρ o).run E.P w= .ok .skip w'))
section
variable {E:Env} {f:FuncId} {o:Oper} {ev:Operand->Option TV} {ρ:Operand->Value} {pb:Nat->Nat}
theorem b9Z(w:World)(c:Array Value)(el:TypeId): ∃fz,NewBlk w (((w.drew.alloc (.cells c el))).freeze ⟨w.heap.size,c.size,none⟩ 1) (.cells c el fz)/\c.size<=fz.1:=by
 refine⟨(c.size,c.size+1),⟨?_,?_,?_,rfl,rfl,rfl⟩,h1D _⟩
 ·show((w.heap.push (.cells c el)).modify w.heap.size _)[w.heap.size]?=_;rw [h3W,if_pos rfl];simp
 ·intro b hb;show((w.heap.push (.cells c el)).modify w.heap.size _)[b]?=_;rw [h3W,if_neg (by omega),h5V,if_neg (by omega)]
 ·show((w.heap.push (.cells c el)).modify w.heap.size _).size=_;simp
theorem c5G(a:Inv M h w)(hev: ∀x tv,ev x=some tv->TR M pb tv (ρ x)){v:Option TV}{h':Heap}(he:gV E f o ev h=some (v,h')):b9Y E M h w o ρ v h':=by
 unfold gV at he
 cases hop:o.op with
 |alloc t=>
  simp only [hop]at he;split at he
  case h_2=>simp at he
  split at he
  ·simp at he
  obtain⟨z,h1,h2⟩:=h0W.1 he;simp at h2;obtain⟨rfl,rfl⟩:=h2;obtain⟨i,r,h3,h4,h5,h6⟩:=eG (M:=M) h1;have hc:=jI h5 h6;have hl:(cellsOf z).length=r.cells.size:=by simpa using hc.len
  obtain⟨M',q1,q2,q3,q4⟩:=yR a (fz:=(0,0)) (cs:=cellsOf z) (NewBlk.alloc w (.cells r.cells t)) (.inl (h1D _)) (by omega) (by rw [h1H (by simp;omega)];exact hc);refine⟨_,M',q1,q2,.inl ⟨_,_,rfl,?_,.ptr q3⟩⟩;simp only [execOp,hop];refine cD _ _ ?_;simp only [Instr.alloc,h1K,cJ w h3 h4,h1F,newVar,Go.newRow,run_newObj,h1R];rfl
 |box t x=>
  simp only [hop]at he;split at he
  case h_2=>simp at he
  rename_i d v' hd hv;split at he
  ·simp at he
  split at he
  case isFalse=>simp at he
  rename_i hnt;simp at he;obtain⟨rfl,rfl⟩:=he;have hc:=jI (bK hev hv) hnt;have hl:(cellsOf v').length=(ρ x).cells.size:=by simpa using hc.len
  obtain⟨M',q1,q2,q3,q4⟩:=yR a (fz:=(0,0)) (cs:=cellsOf v') (NewBlk.alloc w (.cells (ρ x).cells t)) (.inl (h1D _)) (by omega) (by rw [h1H (by simp;omega)];exact hc);refine⟨_,M',q1,q2,.inl ⟨_,_,rfl,?_,.ptr q3⟩⟩;simp only [execOp,hop];refine cD _ _ ?_;simp only [Instr.box,newVar,Go.newRow,h1K,run_newObj,h1F,h1R];rfl
 |buildSlice t n parts=>
  simp only [hop]at he;split at he
  case h_2=>simp at he
  rename_i e d hu hd;split at he
  ·simp at he
  split at he
  case h_2=>simp at he
  rename_i sz z ps hsz hz hp;split at he
  case isFalse=>simp at he
  rename_i hcond;obtain⟨cs,h1,h2⟩:=h0W.1 he;simp at h2;obtain⟨rfl,rfl⟩:=h2;have hp':PR M ps (parts.map fun(i,x)=>(i,ρ x)).toList:=by
   have:=wH (M:=M) hev hp;simpa using this
  obtain⟨ro,r1,r2,r3⟩:=rL (P:=E.P) (M:=M) w hu hsz hz hcond.1 hcond.2 hp' h1;have hros:ro.size=n*(sz+1):=by have:=r2.len;simp at this;omega
  obtain⟨M',q1,q2,q3⟩:=oO a (E.A f d) (fz:=(0,0)) (NewBlk.alloc w (.cells ro e)) (.inl (h1D _)) r3 (h1D n) (by omega) (by rw [h1H (by simp;omega)];exact r2);exact⟨_,M',q1,q2,.inl ⟨_,_,rfl,by simp only [execOp,hop];exact cD _ _ r1,q3⟩⟩
 |makeSlice t lo co=>
  simp only [hop]at he;split at he
  case h_2=>simp at he
  rename_i e d l c hu hd hl hc;split at he
  case h_2=>simp at he
  rename_i sz bytes z hsz hby hz;split at he
  case isFalse=>simp at he
  rename_i hcond;obtain⟨b1,b2,b3,b4,hzl⟩:=hcond;simp only [h0V,h2M]at he;obtain⟨rfl,rfl⟩:=he;obtain⟨kl,hkl⟩:=pT hl;obtain⟨kc,hkc⟩:=pT hc;have vl:VR M (.int kl l) (ρ lo):=hev _ _ hkl;have vc:VR M (.int kc c) (ρ co):=hev _ _ hkc;generalize hρl:ρ lo=rl at vl;generalize hρc:ρ co=rc at vc
  cases vl
  cases vc
  obtain⟨i,hi1,hi2⟩:=dK hsz;obtain⟨i',hi3,hi4⟩:=mA hby;rw [hi1]at hi3;simp at hi3;subst hi3;obtain⟨rz,hz1,hz2⟩:=mN (M:=M) hz hi1;have hrep:=wK hz2 (by omega) l.toNat;have hrepc:=wK hz2 (by omega) c.toNat;rw [hzl]at hrep hrepc;have hlc:l.toNat<=c.toNat:=by omega
  have hmul:l.toNat*(sz+1)<=c.toNat*(sz+1):=h2Q _ hlc;have hrl:(fF l.toNat (cellsOf z)).length=l.toNat*(sz+1):=by rw [gE,hzl]
  obtain⟨M',q1,q2,q3⟩:=oO a (1-E.A f d) (rc:=(Array.range (c.toNat*(sz+1))).map (rz.cells[· %rz.cells.size]!)) (fz:=(0,0)) (NewBlk.alloc w (.cells _ e)) (.inl (h1D _)) hrl hlc (by simp) (by
   rw [hrl];have:((Array.range (c.toNat*(sz+1))).map (rz.cells[· %rz.cells.size]!)).toList.take (l.toNat*(sz+1))=((Array.range (l.toNat*(sz+1))).map (rz.cells[· %rz.cells.size]!)).toList:=by
    apply h3T;intro j
    by_cases hj:j<l.toNat*(sz+1)
    ·simp [hj,show j<c.toNat*(sz+1) by omega]
    ·have hmn:min l.toNat c.toNat=l.toNat:=h8F hlc;simp [hj,hmn]
   rw [this];exact hrep)
  refine⟨_,M',q1,q2,.inl ⟨_,_,rfl,?_,q3⟩⟩;simp only [execOp,hop,hρl,hρc];refine cD _ _ ?_;have wl:IntKind.i64.wrap l=l:=h0X _ (by omega);have wc:IntKind.i64.wrap c=c:=h0X _ (by omega);have t1: ∀n:Int,0<=n->n<=c->(decide (n<0)||decide ((bytes:Int)*n>2^48))=false:=by
   intro n h0 hn;have:(bytes:Int)*n<=bytes*c:=h5G hn (by omega);have e1:decide (n<0)=false:=by simp;omega
   have e2:decide ((bytes:Int)*n>2^48)=false:=by simp;omega
   rw [e1,e2];rfl
  have hty:(typeInfo e).run E.P w= .ok i w:=by simp [typeInfo,hi1]
  simp only [Instr.makeSlice,h1K,run_underlying hu,h1F,asInt,asIntOf,h1R,hty,wl,wc,hi4];have e3:(decide (c<0)||decide ((bytes:Int)*c>2^48)||decide (l<0)||decide (l>c))=false:=by
   rw [t1 c (by omega) (by omega)];have e1:decide (l<0)=false:=by simp;omega
   have e2:decide (l>c)=false:=by simp;omega
   rw [e1,e2];rfl
  have hi2':i.size=sz+1:=hi2;simp only [e3,h1X,if_false,h1R,h1F,run_askRoom,cG hi1,hi2',h1K]
  by_cases hn0:c.toNat*(sz+1)=0
  ·rw [if_pos hn0];simp only [h1K,h1R,h1F,Go.newRow,run_newObj,hn0];rw [uR _ (fun x=>rz.cells[x%rz.cells.size]!)];rfl
  ·rw [if_neg hn0];simp only [h1K,h1R,h1F,cJ w hi1 hz1,Go.newRow,run_newObj];rfl
 |makeMap t r=>
  simp only [hop]at he;split at he
  case h_2=>simp at he
  simp at he;obtain⟨rfl,rfl⟩:=he;obtain⟨M',q1,q2,q3⟩:=e4P a (NewBlk.alloc w (.map #[] 0));refine⟨_,M',q1,q2,.inl ⟨_,_,rfl,?_,.map q3⟩⟩;simp only [execOp,hop];refine cD _ _ ?_;simp only [Instr.makeMap,h8E,h1K,h1R,h1F,run_newObj];rfl
 |convert s d x=>
  simp only [hop]at he;split at he
  case h_2=>simp at he
  rename_i ds e dst b hs hd hdst hx;split at he
  case h_2=>simp at he
  rename_i hu8;simp at he;obtain⟨rfl,rfl⟩:=he;have hav:=bK hev hx;generalize hρ:ρ x=rx at hav
  cases hav with
  |str sb=>
   let cap:=grownCap w sb.size 0 e
   let c:Array Value:=sb.data.map (fun b=>Value.int .u8 b.toNat)++Array.replicate (cap-sb.size) (.int .u8 0)
   obtain⟨fz,nb,hfz⟩:=b9Z w c e;have hge:sb.size<=cap:=grownCap_ge w sb.size 0 e;have hcs:c.size=cap:=by
    have e1:sb.size=sb.data.size:=rfl;simp [c];omega
   have hcr:eB M (sb.data.toList.map fun b=>IV.int .u8 b.toNat) (sb.data.toList.map fun b=>Value.int .u8 b.toNat):=
    ⟨⟨by simp,fun i p q=>by simpa using VR.int _ _⟩,fun i p=>by simp [isCell]⟩
   obtain⟨M',q1,q2,q3⟩:=oO a (E.A f dst) (len:=sb.data.toList.length) (cs:=sb.data.toList.map fun b=>IV.int .u8 b.toNat) (sz:=1) (cap:=cap) nb (.inr hfz) (by simp) hge (by rw [hcs];omega) (by
    have:c.toList.take (sb.data.toList.map fun b=>IV.int .u8 (b.toNat:Int)).length=sb.data.toList.map fun b=>Value.int .u8 b.toNat:=by
     simp only [c,h7D,h7S,h1P];rw [h2Y (by simp),h1H (by simp)]
    rw [this];exact hcr)
   refine⟨_,M',q1,q2,.inl ⟨_,_,rfl,?_,q3⟩⟩;simp only [execOp,hop,hρ];refine cD _ _ ?_;have hconv:(convert s d (.string sb)).run E.P w=(Conv.stringToBytes e sb).run E.P w:=by
    cases ds<;>simp [convert,run_underlying hs,run_underlying hd,run_underlying hu8]
   rw [hconv];simp only [Conv.stringToBytes,h1K,run_choose,Question.forced,h1X,if_false,h1F,Go.newRow,run_newObj,h1R,markStringish,run_shape];have hshape:({w with drawn:=w.drawn+1,heap:=w.heap.push (.cells c e) } :World).shape? w.heap.size=some (e,c.size):=by
    simp [World.shape?]
   have hshape':World.shape? { {w with drawn:=w.drawn+1 }with heap:=({w with drawn:=w.drawn+1 } :World).heap.push (.cells c e) } ({w with drawn:=w.drawn+1 } :World).heap.size=some (e,c.size):=hshape;have:=hshape';simp only [c,cap,grownCap]at this;rw [this];simp only [h1R,h1F,run_freeze,h1K];rfl
 |store t ad x=>
  simp only [hop]at he;split at he
  case h_2=>simp at he
  rename_i id off v' ha hx;split at he
  case h_2=>simp at he
  rename_i cs hg;obtain⟨cs',h1,h2⟩:=h0W.1 he;simp at h2;obtain⟨rfl,rfl⟩:=h2;have hav:VR M (.ptr id off) (ρ ad):=hev _ _ ha;generalize hρ:ρ ad=ra at hav;obtain⟨b',rc,l1,l2,l3,l4,l5⟩:=a.row hg
  cases hav with
  | @ptr _ _ b hl=>
   rw [hl]at l1;simp at l1;subst l1;obtain⟨el,fz,hbk⟩:=l2.at_;obtain⟨rc',s1,s2,s3,s4,s5,s6⟩:=b3U (P:=E.P) l4 hbk l2.free (bK hev hx) h1;have hfrz: ∀j,(w.setCells b off (ρ x).cells.toList).frozen? ⟨b,j,none⟩=w.frozen? ⟨b,j,none⟩:=fun j=>World.frozen?_setCells b _ _ _ _
   obtain⟨q1,q2⟩:=a7M a (cs':=cs') hg hl (fun k hk=>fB b _ _ _ k hk) (fS b _ _ _) (fT b _ _ _)
    ⟨⟨el,fz,s2⟩,fun j hj=>by rw [hfrz];exact l2.free j (by omega),by rw [s3];exact l2.bsz⟩ (by omega) s5
   refine⟨_,M,q1,q2,.inr ⟨rfl,?_⟩⟩;simp only [execOp,hop,hρ];refine b0E _ _ ?_;simp only [Instr.storeAt,Instr.sureAddr,h1K,h1R,h1F];exact s1
 |mapUpdate t m k x=>
  simp only [hop]at he;split at he
  case h_2=>simp at he
  rename_i kt et id key v' hu hm hk hx;split at he
  case h_2=>simp at he
  rename_i d es hd hg;split at he
  case isFalse=>simp at he
  rename_i hkf;obtain⟨es',h1,h2⟩:=h0W.1 he;simp at h2;obtain⟨rfl,rfl⟩:=h2;have hmv:=bK hev hm;have hkv:=bK hev hk;have hxv:=bK hev hx;generalize hρ:ρ m=rm at hmv
  cases hmv with
  | @map _ b hl=>
   obtain⟨b',ents,clock,g1,g2,g3,g4⟩:=a.maps id es hg;rw [hl]at g1;simp at g1;subst g1;have hck:=pW (M:=M) (emp:=false) hd hkf hkv w 9999;have hgo:(getObj b).run E.P w= .ok (.map ents clock) w:=by simp [getObj,Sem.run,g2]
   have hset: ∀ob,(setObj b ob).run E.P w= .ok () {w with heap:=w.heap.setIfInBounds b ob } :=by
    intro ob;simp [setObj,Sem.run,g2]
   have hblt:b<w.heap.size:=cL g2;have fin: ∀ents' clock',uF M es' ents'.toList/\Brn ents' clock'->(Instr.mapUpdate t (.map (some b)) (ρ k) (ρ x)).run E.P w= .ok () {w with heap:=w.heap.setIfInBounds b (.map ents' clock') } ->b9Y E M h w o ρ none (h.set id (.map es')):=by
    intro ents' clock' hmr hrun;obtain⟨q1,q2⟩:=b0F (w':= {w with heap:=w.heap.setIfInBounds b (.map ents' clock') }) a (ents:=ents') (clock:=clock') (es':=es') hg hl (fun j hj=>by simp [h3F,show¬ (b=j)from fun e=>hj e.symm]) (by simp) ⟨rfl,rfl,rfl⟩ (by simp [h3F,hblt]) hmr;refine⟨_,M,q1,q2,.inr ⟨rfl,?_⟩⟩;simp only [execOp,hop,hρ];exact b0E _ _ hrun
   rcases b0H hkv hxv 0 g3 h1 with⟨j,e,u,p1,p2,p3,p4,p5⟩| ⟨p1,rfl⟩
   ·refine fin (ents.modify j fun e=> {e with key:=ρ k,val:=ρ x }) clock ⟨by rw [h7E];exact p5,g4.modify _ _ (fun _=>rfl)⟩ ?_;have hj:ents[j]?=some e:=by rw [<-Array.getElem?_toList];exact p1
    have hstay:(Instr.keyThatStays (((ents[j]?).map (·.key)).getD (ρ k)) (ρ k)).run E.P w= .ok (ρ k) w:=by
     simp [hj,Instr.keyThatStays,p4]
    simp only [h1Q]at p2;simp only [Instr.mapUpdate,h1K,run_underlying hu,h1F,hgo,hck,Instr.findKey,run_underlying hd,p2,h1R,hstay,hset]
   ·refine fin (ents.push {key:=ρ k,val:=ρ x,born:=clock }) (clock+1) ?_ ?_
    ·refine⟨?_,g4.push _ _⟩;rw [Array.toList_push];exact⟨by simpa using g3.1.append (cW.cons hkv (cW.nil M)),by simpa using g3.2.append (cW.cons hxv (cW.nil M))⟩
    ·simp only [Instr.mapUpdate,h1K,run_underlying hu,h1F,hgo,hck,Instr.findKey,run_underlying hd,p1,h1R,hset]
 |mapEntry t m k=>
  simp only [hop]at he;split at he
  case h_2=>simp at he
  rename_i kt et id key hu hm hk;split at he
  case h_2=>simp at he
  rename_i d es z hd hg hz;split at he
  case isFalse=>simp at he
  rename_i hkf;obtain⟨⟨rv,rn,es'⟩,h1,h2⟩:=h0W.1 he;simp only [h0V,h2M]at h2;obtain⟨rfl,rfl⟩:=h2;have hmv:=bK hev hm;have hkv:=bK hev hk;generalize hρ:ρ m=rm at hmv
  cases hmv with
  | @map _ b hl=>
   obtain⟨b',ents,clock,g1,g2,g3,g4⟩:=a.maps id es hg;rw [hl]at g1;simp at g1;subst g1;have hck:=pW (M:=M) (emp:=false) hd hkf hkv w 9999;have hgo:(getObj b).run E.P w= .ok (.map ents clock) w:=by simp [getObj,Sem.run,g2]
   have hset: ∀ob,(setObj b ob).run E.P w= .ok () {w with heap:=w.heap.setIfInBounds b ob } :=by
    intro ob;simp [setObj,Sem.run,g2]
   have hblt:b<w.heap.size:=cL g2;have fin: ∀ents' clock' r,uF M es' ents'.toList/\Brn ents' clock'->VR M (.tuple [rv,.int .i64 rn]) r->(Instr.mapEntry t (.map (some b)) (ρ k)).run E.P w= .ok r {w with heap:=w.heap.setIfInBounds b (.map ents' clock') } ->b9Y E M h w o ρ (some (.v (.tuple [rv,.int .i64 rn]))) (h.set id (.map es')):=by
    intro ents' clock' r hmr hr hrun;obtain⟨q1,q2⟩:=b0F (w':= {w with heap:=w.heap.setIfInBounds b (.map ents' clock') }) a (ents:=ents') (clock:=clock') (es':=es') hg hl (fun j hj=>by simp [h3F,show¬ (b=j)from fun e=>hj e.symm]) (by simp) ⟨rfl,rfl,rfl⟩ (by simp [h3F,hblt]) hmr;refine⟨_,M,q1,q2,.inl ⟨_,r,rfl,?_,hr⟩⟩;simp only [execOp,hop,hρ];exact cD _ _ hrun
   unfold a7J at h1;split at h1
   ·rename_i y hf;obtain⟨es2,u1,u2⟩:=h0W.1 h1;simp only [h2M]at u2;obtain⟨rfl,rfl,rfl⟩:=u2;obtain⟨j0,u0,_,hvy⟩:=tD hkv 0 g3 hf;obtain⟨e,u,p1,p2,p3,p4,p5,p6,p7⟩:=c5F (v:=y) (rv:=u0) hkv hvy 0 g3 hf u1;have hj:ents[kO d key es]?=some e:=by rw [<-Array.getElem?_toList];exact p1
    simp only [h1Q]at p2;rename_i hf0 _;have hu0:u0=u:=by
     have:=(‹Instr.findNow d (ρ k) ents.toList 0=some (some (j0,u0))›);rw [p2]at this;simp only [h0V,h2M]at this;exact this.2.symm
    subst hu0;have hmod:(ents.modify (kO d key es) fun e=> {e with key:=ρ k,val:=u0 })=ents.modify (kO d key es) fun e=> {e with key:=ρ k } :=by
     apply Array.ext_getElem?;intro j;rw [h3W,h3W];split
     ·rename_i hjj;rw [<-hjj,hj];simp [p4]
     ·rfl
    refine fin (ents.modify (kO d key es) fun e=> {e with key:=ρ k }) clock (.tuple #[u0,goInt (kO d key es)]) ⟨?_,g4.modify _ _ (fun _=>rfl)⟩ (dT (cW.cons p3 (cW.cons (.int _ _) (cW.nil M)))) ?_
    ·rw [<-hmod,h7E];exact p7
    have hstay:(Instr.keyThatStays (((ents[kO d key es]?).map (·.key)).getD (ρ k)) (ρ k)).run E.P w= .ok (ρ k) w:=by
     simp [hj,Instr.keyThatStays,p6]
    have hborn:(((ents[kO d key es]?).map (fun x=>(x.born:Int))).getD 0)=(kO d key es:Int):=by
     rw [hj];have:=g4.2 _ _ hj;simp [this]
    simp only [Instr.mapEntry,h1K,run_underlying hu,h1F,hgo,hck,Instr.findKey,run_underlying hd,p2,h1R,hstay,hset,hborn]
   ·rename_i hf;simp only [h0V,h2M]at h1;obtain⟨rfl,rfl,rfl⟩:=h1;obtain⟨i,r,z1,z2,z3,z4⟩:=eG (M:=M) hz;have hfo:=c9T hkv g3 hf;have hcl:clock=es.length:=by rw [g4.1];have:=g3.len;simpa using this.symm
    refine fin (ents.push {key:=ρ k,val:=r,born:=clock }) (clock+1) (.tuple #[r,goInt clock]) ⟨?_,g4.push _ _⟩ (dT (cW.cons z3 (cW.cons (by rw [hcl];exact .int _ _) (cW.nil M)))) ?_
    ·rw [Array.toList_push];exact⟨by simpa using g3.1.append (cW.cons hkv (cW.nil M)),by simpa using g3.2.append (cW.cons z3 (cW.nil M))⟩
    ·simp only [Instr.mapEntry,h1K,run_underlying hu,h1F,hgo,hck,Instr.findKey,run_underlying hd,hfo,h1R,cJ w z1 z2,hset]
   ·cases h1
 |entryStore t m s x=>
  simp only [hop]at he;split at he
  case h_2=>simp at he
  rename_i id kd n v' hm hs hx;split at he
  case h_2=>simp at he
  rename_i es hg;split at he
  case isFalse=>simp at he
  rename_i hn;simp only [h0V,h2M]at he;obtain⟨rfl,rfl⟩:=he;have hmv:=bK hev hm;have hsv:=bK hev hs;have hxv:=bK hev hx;generalize hρ:ρ m=rm at hmv;generalize hρs:ρ s=rs at hsv
  cases hsv
  cases hmv with
  | @map _ b hl=>
   obtain⟨b',ents,clock,g1,g2,g3,g4⟩:=a.maps id es hg;rw [hl]at g1;simp at g1;subst g1;have hgo:(getObj b).run E.P w= .ok (.map ents clock) w:=by simp [getObj,Sem.run,g2]
   have hset: ∀ob,(setObj b ob).run E.P w= .ok () {w with heap:=w.heap.setIfInBounds b ob } :=by
    intro ob;simp [setObj,Sem.run,g2]
   have hblt:b<w.heap.size:=cL g2;have hlen:es.length=ents.size:=by have:=g3.len;simpa using this
   have hnl:n.toNat<ents.size:=by omega
   have hfi:ents.findIdx? (fun e=>(e.born:Int)==n)=some n.toNat:=by
    rw [Array.findIdx?_eq_some_iff_getElem];refine⟨hnl,?_,fun j hj=>?_⟩
    ·have:=g4.2 n.toNat _ (h7Q hnl);rw [this];simp;omega
    ·have:=g4.2 j _ (h7Q (by omega));rw [this];simp;omega
   obtain⟨q1,q2⟩:=b0F (w':= {w with heap:=w.heap.setIfInBounds b (.map (ents.modify n.toNat fun e=> {e with val:=ρ x }) clock) }) a (ents:=ents.modify n.toNat fun e=> {e with val:=ρ x }) (clock:=clock) (es':=nN v' n.toNat es) hg hl (fun j hj=>by simp [h3F,show¬ (b=j)from fun e=>hj e.symm]) (by simp) ⟨rfl,rfl,rfl⟩ (by simp [h3F,hblt]) ⟨by rw [h7E];exact d3I hxv _ g3,g4.modify _ _ (fun _=>rfl)⟩;refine⟨_,M,q1,q2,.inr ⟨rfl,?_⟩⟩;simp only [execOp,hop,hρ,hρs];refine b0E _ _ ?_;simp only [Instr.entryStore,h1K,h1R,h1F,hgo,asInt,asIntOf,hfi,hset]
 |call c=>
  obtain⟨callee,args,argTypes⟩:=c;simp only [hop]at he
  cases callee with
  |value x=>simp at he
  |invoke x n=>simp at he
  |builtin b=>
   cases b
   case append=>
    simp only at he;split at he
    case h_2=>simp at he
    rename_i t u sx xx hat har;have hat':argTypes= #[t,u]:=by apply h4V;simpa using hat
    have har':args= #[sx,xx]:=by apply h4V;simpa using har
    split at he
    case h_2=>simp at he
    rename_i s x e du d hs hx ht hu hd;split at he
    case h_2=>simp at he
    rename_i sz bytes z hsz hby hz;split at he
    case isFalse=>simp at he
    rename_i hcond;obtain⟨hzl,hk⟩:=hcond;obtain⟨⟨r,h''⟩,h1,h2⟩:=h0W.1 he;simp at h2;obtain⟨rfl,rfl⟩:=h2;obtain⟨i,hi1,hi2⟩:=dK hsz;obtain⟨i',hi3,hi4⟩:=mA hby;rw [hi1]at hi3;simp at hi3;subst hi3;obtain⟨rz,hz1,hz2⟩:=mN (M:=M) hz hi1;have hzs:rz.cells.size=sz+1:=by have:=hz2.len;simp at this;omega
    obtain⟨rr,w',M',a1,a2,a3,a4⟩:=c9S (P:=E.P) a (ty:=o.type) ht hi1 hi2 hi4 hz1 hzs hu hk (bK hev hs) (bK hev hx) h1;refine⟨w',M',a3,a4,.inl ⟨_,rr,rfl,?_,a2⟩⟩;subst hat';subst har';simp only [execOp,hop,resolve,invoke,h1K,h1R,h1F,builtin];simp only [h7U,h2H,h4D,a1,h1F]
   case copy=>
    simp only at he;split at he
    case h_2=>simp at he
    rename_i t ts sx xx hat har;have har':args= #[sx,xx]:=by apply h4V;simpa using har
    split at he
    case h_2=>simp at he
    rename_i id off len z x e hs hx ht;split at he
    case h_2=>simp at he
    rename_i sz cs hsz hg;split at he
    case h_2=>simp at he
    rename_i n xs hsrc;split at he
    case isFalse=>simp at he
    rename_i hcond;obtain⟨rfl,hle⟩:=hcond;simp only [h0V,h2M]at he;obtain⟨rfl,rfl⟩:=he;obtain⟨i,hi1,hi2⟩:=dK hsz;obtain⟨s1,s2,s3,s4⟩:=b0G (P:=E.P) a (bK hev hx) hsrc;obtain⟨news,n1,n2,n3,n4⟩:=s4 (min n len) (Nat.min_le_left _ _);obtain⟨b',rc,l1,l2,l3,l4,l5⟩:=a.row hg;have hsv:=bK hev hs;generalize hρ:ρ sx=rs at hsv;have hat0:argTypes[0]?=some t:=by rw [<-Array.getElem?_toList,hat];rfl
    cases hsv with
    | @hslice _ _ _ _ cap b ad hl had hlen=>
     rw [hl]at l1;simp at l1;subst l1;have hml:min n len*(sz+1)<=len*(sz+1):=h2Q _ (Nat.min_le_right _ _);have hnl:(xs.take (min n len*(sz+1))).length=news.length:=n1.len;obtain⟨el,fz,hbk⟩:=l2.at_;obtain⟨rc',e1,e2⟩:=iB b news off w rc el fz hbk (by omega);have hsize:rc'.size=rc.size:=by
      have:=congrArg List.length e2;rw [nO _ _ _ (by simp;omega)]at this;simpa using this
     have hfrz: ∀j,(w.setCells b off news).frozen? ⟨b,j,none⟩=w.frozen? ⟨b,j,none⟩:=fun j=>World.frozen?_setCells b _ _ _ _
     have hslen:(spl cs off (xs.take (min n len*(sz+1)))).length=cs.length:=by
      simp only [spl,h1E,h1Y,h5N];omega
     obtain⟨q1,q2⟩:=a7M a (cs':=spl cs off (xs.take (min n len*(sz+1)))) hg hl (fun k hk=>fB b _ _ _ k hk) (fS b _ _ _) (fT b _ _ _)
      ⟨⟨el,fz,e1⟩,fun j hj=>by rw [hfrz];exact l2.free j (by omega),by rw [hsize];exact l2.bsz⟩ (by rw [hslen];omega) (by
       rw [hslen,e2];have:(oB rc.toList off news).take cs.length=oB (rc.toList.take cs.length) off news:=by
        simp only [oB];rw [h5O,h5O];simp only [h1Y,h1E,h8K,h4Z];rw [show min off rc.size=off from by omega,show min cs.length off=off from by omega,show min off cs.length=off from by omega];rw [h1H (l:=news) (by omega),List.drop_take]
       rw [this];exact l4.spl n1 off)
     refine⟨_,M,q1,q2,.inl ⟨_,goInt (min n len:Nat),rfl,?_,.int _ _⟩⟩;subst har';simp only [execOp,hop,resolve,invoke,h1K,h1R,h1F,builtin];have hcopy:(Builtin.copy_ argTypes o.type #[.slice (some ad) len cap,ρ xx]).run E.P w= .ok (goInt (min n len:Nat)) (w.setCells b off news):=by
      have hst:(storeCells ad news 0).run E.P w= .ok () (w.setCells b off news):=by
       by_cases h0:cap=0
       ·have:news=[]:=by
         have:min n len=0:=by omega
         rw [this]at n2;simpa using n2
        subst this;rfl
       ·obtain⟨rfl,_⟩:=had.resolve_left h0;exact run_storeCells_cells (P:=E.P) b off news 0 w (by
         intro j hj;simp [World.cell?,hbk,show off+j<rc.size by omega]) (by
         intro j hj;simpa using l2.free (off+j) (by omega)) n1.one
      have hmin:Nat.min n len=min n len:=rfl;simp [Builtin.copy_,hat0,run_underlying ht,s2,cG hi1,hi2,hmin,n3,hst]
     simp only [h7U,h2H,h4D,hρ,hcopy,h1F]
   all_goals simp at he
 |_=>simp [hop]at he
end
end
end Go.Pv
end
end

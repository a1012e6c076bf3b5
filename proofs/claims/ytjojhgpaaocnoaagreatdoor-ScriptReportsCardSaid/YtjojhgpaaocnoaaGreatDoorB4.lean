/- Machines and laws 4. -/
import Derived.Test.YtjojhgpaaocnoaaGreatDoorB3
set_option linter.unusedVariables false
set_option linter.unusedSectionVars false
set_option linter.unusedSimpArgs false
namespace Go.Sx
open Go Go.Gx Go.Mx
variable [qE]
section
variable {P:Program} {gl:GL} {X:Gst} {e:Operand->Option SV} {m:Operand->Option AV}
theorem ziz(hr:RH X)(he:EvR X e m){x:Operand}{v:SV}(h:e x=some v):∃ rs,mop P m X.h (.move x)=some rs/\SRR X (.val v X.sh) rs:=by
 obtain⟨p,h1,h2⟩:=he _ _ h
 exact⟨_,by simp only[mop,h1,rv],.same hr h2⟩
theorem ze2(hr:RH X)(he:EvR X e m){x:Operand}{v:SV}(h:e x=some v):∃ rs,mop P m X.h (.assign x)=some rs/\SRR X (.val v X.sh) rs:=by
 obtain⟨p,h1,h2⟩:=he _ _ h
 exact⟨_,by simp only[mop,h1,rv],.same hr h2⟩
def zoL(c:Bool)(x y:SV)(h:SH):zeY:=match x,y with
 |.a (.bool x),.a (.bool y)=>one true (.a (.bool (cond c x y))) h
 |x,y=>[(c,.val x h),(!c,.val y h)]
theorem ziH(hr:RH X)(he:EvR X e m){oc ox oy:Operand}{c:Bool}{x y:SV}{q:SR}(hc:e oc=some (.a (.bool c)))(hx:e ox=some x)(hy:e oy=some y)(h:Hit (zoL c x y X.sh) q):∃ rs,mop P m X.h (.pick oc ox oy)=some rs/\SRR X q rs:=by
 obtain⟨pc,h1,h2⟩:=he _ _ hc
 cases(show pc=_ from h2)
 obtain⟨px,h3,h4⟩:=he _ _ hx
 obtain⟨py,h5,h6⟩:=he _ _ hy
 have key:∀ v,(c=true->v=x)->(c=false->v=y)->∃ rs,mop P m X.h (.pick oc ox oy)=some rs/\SRR X (.val v X.sh) rs:=by
  intro v hT hF
  cases c with
  |true=>exact⟨_,by simp only[mop,h1,h3,rv],.same hr (hT rfl ▸ h4)⟩
  |false=>exact⟨_,by simp only[mop,h1,h5,rv],.same hr (hF rfl ▸ h6)⟩
 unfold zoL at h
 split at h
 ·obtain⟨_,rfl⟩:=qa h
  exact key _ (fun e=>by rw[e];rfl) (fun e=>by rw[e];rfl)
 ·rcases h with⟨rfl,rfl⟩|⟨rfl,⟨_,rfl⟩|⟨_,h⟩⟩
  ·exact key _ (fun _=>rfl) (fun e=>by cases e)
  ·exact key _ (fun e=>by cases e) (fun _=>rfl)
  ·cases h
def SV.whole(v:SV):Bool:=match v with
 |.agg _=>true
 |v=>v.one
theorem RV.zdf{v:SV}{x:AV}(h:RV X v x)(ho:v.whole=true):RVs X v.cells x.cells:=by
 refine h.cells ?_
 cases v<;>first|exact .inr ⟨_,rfl⟩|exact .inl ho
def zda(e:Operand->Option SV):List (Nat×Operand)->Option (List (Nat×SV))
 | []=>some []
 |(i,x)::l=>match e x,zda e l with
  |some v,some vs=>some ((i,v)::vs)
  |_,_=>none
def RPs(X:Gst):List (Nat×SV)->List (Nat×AV)->Prop
 | [],l=>l=[]
 |p::ps,l=>∃ x xs,l=(p.1,x)::xs/\RV X p.2 x/\RPs X ps xs
theorem zbY(he:EvR X e m){l:List (Nat×Operand)}{ps:List (Nat×SV)}(h:zda e l=some ps):∃ qs,qH m l=some qs/\RPs X ps qs:=by
 induction l generalizing ps with
 |nil=>cases h;exact⟨[],rfl,rfl⟩
 |cons p l ih=>
  obtain⟨i,o⟩:=p
  simp only[zda] at h
  split at h
  ·rename_i v vs h1 h2
   cases h
   obtain⟨x,h3,h4⟩:=he _ _ h1
   obtain⟨xs,h5,h6⟩:=ih h2
   exact⟨_,by simp only[qH,h3,h5],x,xs,rfl,h4,h6⟩
  ·cases h
def zhd(place:Nat->Option (Nat×Nat))(cells:List SV):List (Nat×SV)->Option (List SV)
 | []=>some cells
 |(i,v)::rest=>match place i with
  |none=>none
  |some (off,size)=>match Nat.beq v.cells.length size&&Nat.ble (off+size) cells.length&&v.whole with
   |true=>zhd place (cells.take off++v.cells++cells.drop (off+size)) rest
   |false=>none
theorem kI{place:Nat->Option (Nat×Nat)}{ps:List (Nat×SV)}:∀ {cs r:List SV} {xs:List AV} {qs:List (Nat×AV)},RVs X cs xs->RPs X ps qs->zhd place cs ps=some r->∃ r',zbr place xs qs=some r'/\RVs X r r':=by
 induction ps with
 |nil=>intro cs r xs qs hc hp h;cases h;cases(show qs=[] from hp);exact⟨xs,rfl,hc⟩
 |cons p ps ih=>
  intro cs r xs qs hc hp h
  obtain⟨i,v⟩:=p
  obtain⟨x,qs',rfl,h1,h2⟩:=hp
  simp only[zhd] at h
  split at h
  ·cases h
  ·rename_i off size hpl
   split at h
   ·rename_i hb
    simp only[Bool.and_eq_true] at hb
    have h3:v.cells.length=size:=zb hb.1.1
    have h4:off+size<=cs.length:=Nat.le_of_ble_eq_true hb.1.2
    have hv:=h1.zdf hb.2
    have hl:=hv.length
    obtain⟨r',h5,h6⟩:=ih (((hc.take off).append hv).append (hc.drop (off+size))) h2 h
    refine⟨r',?_,h6⟩
    simp only[zbr,hpl]
    rw[if_pos ⟨hl.trans h3,by rw[hc.length];exact h4⟩]
    exact h5
   ·cases h
def zdb(P:Program)(t:TypeId):Option SV:=match zeroOf P t with
 |some z=>zqw z
 |none=>none
theorem qb{t:TypeId}{z:SV}(h:zdb P t=some z):∃ x,zeroOf P t=some x/\RV X z x:=by
 unfold zdb at h
 split at h
 ·rename_i x hx;exact⟨x,hx,zdO h⟩
 ·cases h
def zkO(P:Program)(t:TypeId)(parts:List (Nat×SV)):Option SV:=
 match zdb P t,P.underlying t with
 |some z,some (.struct fs)=>match zcX P fs.toList,z.whole with
  |some ps,true=>match zhd (ps[·]?) z.cells parts with|some cs=>some (.agg cs)|none=>none
  |_,_=>none
 |some z,some (.array _ el)=>match wI P el,z.whole with
  |some n,true=>match zhd (fun i=>some (i*n,n)) z.cells parts with|some cs=>some (.agg cs)|none=>none
  |_,_=>none
 |_,_=>none
theorem zgj(hr:RH X)(he:EvR X e m){t:TypeId}{parts:Array (Nat×Operand)}{ps:List (Nat×SV)}{v:SV}(hp:zda e parts.toList=some ps)(h:zkO P t ps=some v):∃ rs,mop P m X.h (.build t parts)=some rs/\SRR X (.val v X.sh) rs:=by
 obtain⟨qs,h1,h2⟩:=zbY he hp
 unfold zkO at h
 split at h
 ·rename_i z fs hz hu
  obtain⟨x,h3,h4⟩:=qb (X:=X) hz
  split at h
  ·rename_i pl hpl hw
   split at h
   ·rename_i cs hcs
    cases h
    obtain⟨r',h5,h6⟩:=kI (h4.zdf hw) h2 hcs
    exact⟨_,by simp only[mop,h1,zhP,h3,hu,hpl,h5,rv],.same hr ⟨r',rfl,h6⟩⟩
   ·cases h
  ·cases h
 ·rename_i z k el hz hu
  obtain⟨x,h3,h4⟩:=qb (X:=X) hz
  split at h
  ·rename_i n hn hw
   split at h
   ·rename_i cs hcs
    cases h
    obtain⟨r',h5,h6⟩:=kI (h4.zdf hw) h2 hcs
    exact⟨_,by simp only[mop,h1,zhP,h3,hu,hn,h5,rv],.same hr ⟨r',rfl,h6⟩⟩
   ·cases h
  ·cases h
 ·cases h
def zoK(P:Program)(t:TypeId)(cs:List SV)(off:Nat):Option SV:=
 match zeV P t,wI P t with
 |some true,some n=>some (.agg ((cs.drop off).take n))
 |some false,_=>cs[off]?
 |_,_=>none
theorem zhj{t:TypeId}{cs:List SV}{xs:List AV}{off:Nat}{v:SV}(hc:RVs X cs xs)(h:zoK P t cs off=some v):∃ x,zaW P t xs off=some x/\RV X v x:=by
 unfold zoK at h
 unfold zaW
 split at h
 ·rename_i n ha hs
  cases h
  rw[ha,hs]
  exact⟨_,rfl,_,rfl,(hc.drop off).take n⟩
 ·rename_i ha
  rw[ha]
  obtain⟨x,h1,h2⟩:=hc.get h
  exact⟨x,by simpa using h1,h2⟩
 ·cases h
def zkS(P:Program)(t:TypeId)(v:SV)(f:Nat):Option SV:=match P.underlying t,v with
 |some (.struct fs),.agg cs=>match fs[f]? with
  |some fd=>zoK P fd.type cs fd.offset
  |none=>none
 |_,_=>none
theorem zgp(hr:RH X)(he:EvR X e m){t:TypeId}{x:Operand}{f:Nat}{a v:SV}(hx:e x=some a)(h:zkS P t a f=some v):∃ rs,mop P m X.h (.field t x f)=some rs/\SRR X (.val v X.sh) rs:=by
 obtain⟨p,h1,h2⟩:=he _ _ hx
 unfold zkS at h
 split at h
 ·rename_i fs cs hu
  obtain⟨xs,rfl,h3⟩:=h2
  split at h
  ·rename_i fd hf
   obtain⟨y,h4,h5⟩:=zhj (P:=P) h3 h
   exact⟨_,by simp only[mop,hu,h1,hf,h4,rv],.same hr h5⟩
  ·cases h
 ·cases h
theorem zed(hr:RH X)(he:EvR X e m){x:Operand}{i:Nat}{l:List SV}{v:SV}(hx:e x=some (.tup l))(h:l[i]?=some v):∃ rs,mop P m X.h (.extract x i)=some rs/\SRR X (.val v X.sh) rs:=by
 obtain⟨p,h1,xs,rfl,h2⟩:=he _ _ hx
 obtain⟨y,h3,h4⟩:=h2.get h
 exact⟨_,by simp only[mop,h1,h3,rv],.same hr h4⟩
def zoo:SV->Bool
 |.ptr ..=>true
 |.zcP ..=>true
 |.zdD ..=>true
 |.fn ..=>true
 |.ifc ..=>true
 |_=>false
theorem zdq(hr:RH X)(he:EvR X e m){x:Operand}{v:SV}(hx:e x=some v)(h:zoo v=true):∃ rs,mop P m X.h (.nilCheck x)=some rs/\SRR X (.val v X.sh) rs:=by
 obtain⟨p,h1,h2⟩:=he _ _ hx
 unfold zoo at h
 split at h
 ·have h3:=h2;obtain⟨_,_,rfl⟩:=h2;exact⟨_,by simp only[mop,h1],.same hr h3⟩
 ·have h3:=h2;obtain⟨_,_,_,_,_,rfl,_⟩:=h2;exact⟨_,by simp only[mop,h1],.same hr h3⟩
 ·have h3:=h2;cases(show p=_ from h2);exact⟨_,by simp only[mop,h1],.same hr h3⟩
 ·have h3:=h2;obtain⟨_,_,rfl,_⟩:=h2;exact⟨_,by simp only[mop,h1],.same hr h3⟩
 ·have h3:=h2;obtain⟨_,rfl,_⟩:=h2;exact⟨_,by simp only[mop,h1],.same hr h3⟩
 ·cases h
def isIface(P:Program)(t:TypeId):Bool:=match P.underlying t with
 |some (.interface _)=>true
 |none=>true
 |_=>false
theorem zaq(hr:RH X)(he:EvR X e m){t:TypeId}{x:Operand}{v:SV}(hx:e x=some v)(h:isIface P t=false):∃ rs,mop P m X.h (.makeInterface t x)=some rs/\SRR X (.val (.ifc t v) X.sh) rs:=by
 obtain⟨p,h1,h2⟩:=he _ _ hx
 refine⟨.val (.ifc t p) X.h,?_,.same hr ⟨p,rfl,h2⟩⟩
 unfold isIface at h
 cases hu:P.underlying t with
 |none=>rw[hu] at h;cases h
 |some d=>rw[hu] at h;cases d<;>first|(cases h;done)|simp only[mop,h1,hu]
theorem zdo(hr:RH X)(he:EvR X e m){f:FuncId}{first cap:Array Operand}{a b:List SV}(ha:zlF e first.toList=some a)(hb:zlF e cap.toList=some b):∃ rs,mop P m X.h (.makeFunc (.func f) first cap)=some rs/\SRR X (.val (.fn f a b) X.sh) rs:=by
 obtain⟨xa,h1,h2⟩:=j6 he ha
 obtain⟨xb,h3,h4⟩:=j6 he hb
 exact⟨_,by simp only[mop,h1,h3],.same hr ⟨_,_,rfl,h2,h4⟩⟩
def xF(P:Program)(s:TypeId)(v:SV)(f:Nat)(h:SH):Option SV:=
 match P.underlying s with
 |some (.struct fs)=>match fs[f]? with
  |some fd=>match wI P fd.type with
   |some (_+1)=>match v with
    |.ptr loc off lim=>some (.ptr loc (off+fd.offset) lim)
    |.zea loc n i fo=>match h[loc]? with
     |some (.seq _ _ k _)=>match Nat.beq k n with
      |true=>some (.zea loc n i (fo+fd.offset))
      |false=>none
     |_=>none
    |.zcP u y fo=>some (.zcP u y (fo+fd.offset))
    |.zdD g off lim=>some (.zdD g (off+fd.offset) lim)
    |_=>none
   |_=>none
  |none=>none
 |_=>none
theorem zci{s:TypeId}{f:Nat}{a v:SV}{x:AV}(ha:RV X a x)(h:xF P s a f X.sh=some v):∃ y,w8 P s x f=some y/\RV X v y:=by
 unfold xF at h
 split at h
 ·rename_i fs hu
  split at h
  ·rename_i fd hf
   split at h
   ·rename_i z hz
    have hk:∀ loc off ver lim,w8 P s (.ptr loc off ver lim) f=some (.ptr loc (off+fd.offset) ver lim):=fun _ _ _ _=>by simp only[w8,hu,hf,hz]
    split at h
    ·cases h;obtain⟨m,h1,rfl⟩:=ha;exact⟨_,hk _ _ _ _,m,h1,rfl⟩
    ·split at h
     ·rename_i loc n i fo _ u l k md hb
      split at h
      ·rename_i hkn
       have hkn:=zb hkn
       subst hkn
       cases h
       obtain⟨hone,o,ho,hc⟩:=ha
       obtain⟨hi,m,ver,lim,rfl,rfl,hlim⟩:=(hc _ _ _ _ hb).2 rfl
       refine⟨_,hk _ _ _ _,rfl,some (m,ver),ho,fun u' l' k' md' hb'=>?_⟩
       rw[hb] at hb';cases hb'
       exact⟨Nat.le_refl _,fun _=>⟨hi,m,ver,lim,rfl,by rw[Nat.add_assoc],hlim⟩⟩
      ·cases h
     ·cases h
    ·cases h;obtain⟨m,off,ver,lim,cs,rfl,h1⟩:=ha;exact⟨_,hk _ _ _ _,m,off,ver,lim,cs,by rw[Nat.add_assoc],h1⟩
    ·cases h;cases(show x=_ from ha);exact⟨_,hk _ _ _ _,rfl⟩
    ·cases h
   ·cases h
  ·cases h
 ·cases h
theorem zcJ(hr:RH X)(he:EvR X e m){s:TypeId}{x:Operand}{f:Nat}{a v:SV}(hx:e x=some a)(h:xF P s a f X.sh=some v):∃ rs,mop P m X.h (.fieldAddr s x f)=some rs/\SRR X (.val v X.sh) rs:=by
 obtain⟨p,h1,h2⟩:=he _ _ hx
 obtain⟨y,h3,h4⟩:=zci h2 h
 exact⟨_,by simp only[mop,h1,h3,rv],.same hr h4⟩
def inb(i:Int)(len:Nat):Bool:=decide (0<=i)&&decide (i<len)
theorem qu{i:Int}{len:Nat}(h:inb i len=true):0<=i/\i<len/\i.toNat<len:=by
 unfold inb at h;simp only[Bool.and_eq_true,decide_eq_true_eq] at h;omega
def znr:SV->Option Int
 |.a (.int _ n)=>some n
 |.u8 b=>some (b.toNat:Int)
 |_=>none
theorem xH{v:SV}{x:AV}{n:Int}(h:znr v=some n)(hv:RV X v x):∃ k,x=.int k n:=by
 unfold znr at h
 split at h
 ·cases h;cases(show x=_ from hv);exact⟨_,rfl⟩
 ·cases h;cases(show x=_ from hv);exact⟨_,rfl⟩
 ·cases h
def zdA(P:Program)(t:TypeId)(n:Nat):Bool:=match P.underlying t with
 |some (.slice e)=>match wI P e with
  |some z=>Nat.beq z n
  |none=>false
 |_=>false
theorem zcn{t:TypeId}{n:Nat}(h:zdA P t n=true):∃ el,P.underlying t=some (.slice el)/\wI P el=some n:=by
 unfold zdA at h
 split at h
 ·rename_i el hu
  split at h
  ·rename_i z hz;exact⟨el,hu,by rw[hz,zb h]⟩
  ·cases h
 ·cases h
def j7(P:Program)(t:TypeId)(x:SV)(i:Int)(h:SH):Option (Bool×SV):=
 match x with
 |.isl u l=>match zdA P t u.sz with
  |true=>some (inb i l.length,.zcP u (nth u l i.toNat) 0)
  |false=>none
 |.cl u l=>match zdA P t u.sz with
  |true=>some (inb i l.length,.zcP u (nth u l i.toNat) 0)
  |false=>none
 |.ul u l=>match zdA P t u.sz with
  |true=>some (inb i l.length,.zcP u (nth u l i.toNat) 0)
  |false=>none
 |.gs loc n=>match h[loc]? with
  |some (.seq u l k _)=>match Nat.beq k n,zdA P t u.sz with
   |true,true=>some (inb i l.length,.zea loc n i.toNat 0)
   |_,_=>none
  |_=>none
 |.sl loc n off len _=>match h[loc]? with
  |some (.seq u l k _)=>match Nat.beq k n,zdA P t u.sz with
   |true,true=>some (inb i len,.zea loc n (off+i.toNat) 0)
   |_,_=>none
  |_=>none
 |.zh7 loc n len=>match h[loc]? with
  |some (.seq u l k _)=>match P.underlying t with
   |some (.array len' e)=>match wI P e with
    |some z=>match Nat.beq k n,Nat.beq z u.sz,Nat.beq len' len with
     |true,true,true=>some (inb i len,.zea loc n i.toNat 0)
     |_,_,_=>none
    |none=>none
   |_=>none
  |_=>none
 |.csl loc off n sz=>match zdA P t sz with
  |true=>some (inb i n,.ptr loc (off+i.toNat*sz) (off+n*sz))
  |false=>none
 |.ptr loc off lim=>match P.underlying t with
  |some (.array len e)=>match wI P e with
   |some z=>some (inb i len,.ptr loc (off+i.toNat*z) lim)
   |none=>none
  |_=>none
 |.zdD g off lim=>match P.underlying t with
  |some (.array len e)=>match wI P e with
   |some z=>some (inb i len,.zdD g (off+i.toNat*z) lim)
   |none=>none
  |_=>none
 |_=>none
theorem zaN{t:TypeId}{n:Nat}(hz:zdA P t n=true){loc off len ver:Nat}{c:Bool}{k:IntKind}{i:Int}(hi:inb i len=true):zR P t (.sl loc off len n ver c) (.int k i)=some (.ptr loc (off+i.toNat*n) ver (off+len*n)):=by
 obtain⟨el,hu,hs⟩:=zcn hz
 obtain⟨h1,h2,h3⟩:=qu hi
 simp only[zR,hu,hs]
 rw[if_pos ⟨trivial,h1,h2⟩]
theorem zgB{t:TypeId}{u:U}{l:List (El u)}{c:Bool}{x:AV}{k:IntKind}{i:Int}(hv:RSl X.h X.Φ c u l x)(hz:zdA P t u.sz=true)(hi:inb i l.length=true):∃ y,zR P t x (.int k i)=some y/\RV X (.zcP u (nth u l i.toNat) 0) y:=by
 obtain⟨h1,h2,h3⟩:=qu hi
 rcases hv with⟨rfl,_⟩|⟨m,off,ver,c',cs,rfl,q0,q1,q2,q3⟩
 ·simp at h3
 ·refine⟨_,zaN hz hi,m,off+i.toNat*u.sz,ver,off+l.length*u.sz,part u.sz cs i.toNat,by rw[Nat.add_zero],q1,?_,⟨off+l.length*u.sz,?_⟩,?_,?_⟩
  ·have:i.toNat*u.sz+u.sz<=l.length*u.sz:=by rw[<- Nat.succ_mul];exact Nat.mul_le_mul_right _ h3
   omega
  ·have hm:i.toNat*u.sz+u.sz<=l.length*u.sz:=by rw[<- Nat.succ_mul];exact Nat.mul_le_mul_right _ h3
   unfold rd at q2 |-
   split at q2
   ·split at q2
    ·rename_i hc
     cases q2
     rw[if_pos ⟨hc.1,by omega⟩,zN,List.drop_take,List.drop_drop,List.take_take,Nat.min_eq_left (by omega)]
    ·cases q2
   ·split at q2
    ·cases q2
     rw[if_pos (by omega),zN,List.drop_take,List.drop_drop,List.take_take,Nat.min_eq_left (by omega)]
    ·cases q2
   ·cases q2
  ·exact(q3.2 _ _ (wV h3)).length
  ·exact q3.2 _ _ (wV h3)
theorem zcj(hr:RH X){t:TypeId}{a v:SV}{x:AV}{k:IntKind}{i:Int}(ha:RV X a x)(h:j7 P t a i X.sh=some (true,v)):∃ y,zR P t x (.int k i)=some y/\RV X v y:=by
 unfold j7 at h
 split at h
 ·split at h
  ·rename_i hz;simp only[Option.some.injEq,Prod.mk.injEq] at h;obtain⟨hi,rfl⟩:=h;exact zgB ha hz hi
  ·cases h
 ·split at h
  ·rename_i hz;simp only[Option.some.injEq,Prod.mk.injEq] at h;obtain⟨hi,rfl⟩:=h;exact zgB ha.1 hz hi
  ·cases h
 ·split at h
  ·rename_i hz;simp only[Option.some.injEq,Prod.mk.injEq] at h;obtain⟨hi,rfl⟩:=h;obtain⟨c,ha⟩:=ha;exact zgB ha hz hi
  ·cases h
 ·split at h
  ·rename_i loc n _ u l k' md hb
   split at h
   ·rename_i hk hz
    simp only[Option.some.injEq,Prod.mk.injEq] at h;obtain⟨hi,rfl⟩:=h
    have hk:=zb hk
    subst hk
    obtain⟨h1,h2,h3⟩:=qu hi
    obtain⟨hone,o,ho,hc⟩:=ha
    have hQ:=(hc _ _ _ _ hb).2 rfl
    cases o with
    |none=>obtain⟨_,hl⟩:=hQ;omega
    |some p=>
     obtain⟨m,ver⟩:=p
     cases(show x=_ from hQ)
     refine⟨_,zaN hz hi,rfl,some (m,ver),ho,fun u' l' k' md' hb'=>?_⟩
     rw[hb] at hb';cases hb'
     refine⟨Nat.le_refl _,fun _=>⟨h3,m,ver,_,rfl,by rw[Nat.add_zero,Nat.zero_add],?_⟩⟩
     rw[Nat.zero_add];exact Nat.mul_le_mul_right _ h3
   ·cases h
  ·cases h
 ·split at h
  ·rename_i loc n off len c _ u l k' md hb
   split at h
   ·rename_i hk hz
    simp only[Option.some.injEq,Prod.mk.injEq] at h;obtain⟨hi,rfl⟩:=h
    have hk:=zb hk
    subst hk
    obtain⟨h1,h2,h3⟩:=qu hi
    obtain⟨hone,o,ho,hc⟩:=ha
    obtain⟨hl,hQ⟩:=(hc _ _ _ _ hb).2 rfl
    cases o with
    |none=>
     have hl0:l=[]:=hr.blk _ _ _ hb ho
     rw[hl0] at hl;simp at hl;omega
    |some p=>
     obtain⟨m,ver⟩:=p
     cases(show x=_ from hQ)
     refine⟨_,zaN hz hi,rfl,some (m,ver),ho,fun u' l' k' md' hb'=>?_⟩
     rw[hb] at hb';cases hb'
     refine⟨Nat.le_refl _,fun _=>⟨by omega,m,ver,_,rfl,by rw[Nat.add_zero,Nat.add_mul],?_⟩⟩
     rw[<- Nat.add_mul];exact Nat.mul_le_mul_right _ (by omega)
   ·cases h
  ·cases h
 ·split at h
  ·rename_i loc n len _ u l k' md hb
   split at h
   ·rename_i len' el hu
    split at h
    ·rename_i z hz
     split at h
     ·rename_i hk hz2 hl2
      have hk:=zb hk;have hz2:=zb hz2;have hl2:=zb hl2
      subst hk;subst hz2;subst hl2
      simp only[Option.some.injEq,Prod.mk.injEq] at h;obtain⟨hi,rfl⟩:=h
      obtain⟨h1,h2,h3⟩:=qu hi
      obtain⟨hone,o,ho,hc⟩:=ha
      obtain⟨hl,m,rfl,rfl⟩:=(hc _ _ _ _ hb).2 rfl
      refine⟨.ptr m (0+i.toNat*u.sz) 0 (len'*u.sz),?_,rfl,some (m,0),ho,fun u' l' k2 md' hb'=>?_⟩
      ·simp only[zR,hu,hz]
       rw[if_pos ⟨h1,h2⟩]
      ·rw[hb] at hb';cases hb'
       exact⟨Nat.le_refl _,fun _=>⟨by omega,m,0,_,rfl,by rw[Nat.add_zero,Nat.zero_add],Nat.mul_le_mul_right _ h3⟩⟩
     ·cases h
    ·cases h
   ·cases h
  ·cases h
 ·split at h
  ·rename_i hz
   simp only[Option.some.injEq,Prod.mk.injEq] at h;obtain⟨hi,rfl⟩:=h
   obtain⟨m,h4,rfl⟩:=ha
   exact⟨_,zaN hz hi,m,h4,rfl⟩
  ·cases h
 ·split at h
  ·rename_i len el hu
   split at h
   ·rename_i z hz
    simp only[Option.some.injEq,Prod.mk.injEq] at h;obtain⟨hi,rfl⟩:=h
    obtain⟨h1,h2,h3⟩:=qu hi
    obtain⟨m,h4,rfl⟩:=ha
    refine⟨_,?_,m,h4,rfl⟩
    simp only[zR,hu,hz]
    rw[if_pos ⟨h1,h2⟩]
   ·cases h
  ·cases h
 ·split at h
  ·rename_i len el hu
   split at h
   ·rename_i z hz
    simp only[Option.some.injEq,Prod.mk.injEq] at h;obtain⟨hi,rfl⟩:=h
    obtain⟨h1,h2,h3⟩:=qu hi
    cases(show x=_ from ha)
    refine⟨_,?_,rfl⟩
    simp only[zR,hu,hz]
    rw[if_pos ⟨h1,h2⟩]
   ·cases h
  ·cases h
 ·cases h
theorem wx(hr:RH X)(he:EvR X e m){t:TypeId}{ox oi:Operand}{a b v:SV}{i:Int}(hx:e ox=some a)(hi:e oi=some b)(hb:znr b=some i)(h:j7 P t a i X.sh=some (true,v)):∃ rs,mop P m X.h (.indexAddr t ox oi)=some rs/\SRR X (.val v X.sh) rs:=by
 obtain⟨p,h1,h2⟩:=he _ _ hx
 obtain⟨q,h3,h4⟩:=he _ _ hi
 obtain⟨k,rfl⟩:=xH hb h4
 obtain⟨y,h5,h6⟩:=zcj hr (k:=k) h2 h
 exact⟨_,by simp only[mop,h1,h3,h5,rv],.same hr h6⟩
end
end Go.Sx
namespace Go.Sx
open Go Go.Gx Go.Mx
variable [qE]
section
variable {P:Program} {gl:GL} {X:Gst} {e:Operand->Option SV} {m:Operand->Option AV}
def ints(k:IntKind):List SV->Option (List Int)
 | []=>some []
 |.a (.int k' n)::l=>if k=k' then match ints k l with
  |some r=>some (n::r)
  |none=>none
  else none
 |_=>none
def u8s:List SV->Option (List UInt8)
 | []=>some []
 |.u8 b::l=>match u8s l with
  |some r=>some (b::r)
  |none=>none
 |_=>none
theorem zdG{k:IntKind}{cs:List SV}{xs:List AV}{l:List Int}(hc:RVs X cs xs)(h:ints k cs=some l):xs=l.map (.int k):=by
 induction cs generalizing xs l with
 |nil=>cases h;exact hc
 |cons v cs ih=>
  obtain⟨x,t,rfl,h1,h2⟩:=hc
  unfold ints at h
  split at h
  ·cases ‹_=[]›
  ·rename_i k' n l' heq
   cases heq
   split at h
   ·rename_i hk
    subst hk
    split at h
    ·rename_i r hr;cases h;cases(show x=_ from h1);rw[ih h2 hr];rfl
    ·cases h
   ·cases h
  ·cases h
theorem zdd{cs:List SV}{xs:List AV}{l:List UInt8}(hc:RVs X cs xs)(h:u8s cs=some l):xs=l.map qq:=by
 induction cs generalizing xs l with
 |nil=>cases h;exact hc
 |cons v cs ih=>
  obtain⟨x,t,rfl,h1,h2⟩:=hc
  unfold u8s at h
  split at h
  ·cases ‹_=[]›
  ·rename_i b l' heq
   cases heq
   split at h
   ·rename_i r hr;cases h;cases(show x=_ from h1);rw[ih h2 hr];rfl
   ·cases h
  ·cases h
def zkZ(P:Program)(t:TypeId)(x:SV)(i:Int):Option (Bool×SV):=
 match P.underlying t,x with
 |some .string,.a (.str l)=>some (inb i l.length,.u8 (nth .u8 l i.toNat))
 |some (.array n e),.agg cs=>match P.underlying e,wI P e with
  |some (.int .u8),some 1=>match u8s cs with
   |some l=>some (inb i n&&inb i l.length,.u8 (nth .u8 l i.toNat))
   |none=>none
  |some (.int k),some 1=>match ints k cs with
   |some l=>some (inb i n&&inb i l.length,.a (.int k (nth (.int k) l i.toNat)))
   |none=>none
  |_,_=>none
 |_,_=>none
theorem zhx{t:TypeId}{k:IntKind}(h:P.underlying t=some (.int k)):zeV P t=some false:=by unfold zeV;rw[h]
theorem zgC(hr:RH X)(he:EvR X e m){t:TypeId}{ox oi:Operand}{a b v:SV}{i:Int}(hx:e ox=some a)(hi:e oi=some b)(hb:znr b=some i)(h:zkZ P t a i=some (true,v)):∃ rs,mop P m X.h (.index t ox oi)=some rs/\SRR X (.val v X.sh) rs:=by
 obtain⟨p,h1,h2⟩:=he _ _ hx
 obtain⟨q,h3,h4⟩:=he _ _ hi
 obtain⟨k,rfl⟩:=xH hb h4
 suffices hk:∃ y,zdM P t p (.int k i)=some y/\RV X v y by
  obtain⟨y,h5,h6⟩:=hk
  exact⟨_,by simp only[mop,h1,h3,h5,rv],.same hr h6⟩
 unfold zkZ at h
 split at h
 ·rename_i l hu
  simp only[Option.some.injEq,Prod.mk.injEq] at h;obtain⟨hi,rfl⟩:=h
  obtain⟨k1,k2,k3⟩:=qu hi
  cases(show p=_ from h2)
  refine⟨qq (nth .u8 l i.toNat),?_,rfl⟩
  simp only[zdM,hu]
  rw[if_pos k1,wV (u:=.u8) k3]
 ·rename_i n el cs hu
  obtain⟨xs,rfl,hc⟩:=h2
  split at h
  ·rename_i he1 hs
   split at h
   ·rename_i l hl
    simp only[Option.some.injEq,Prod.mk.injEq,Bool.and_eq_true] at h;obtain⟨⟨hi1,hi2⟩,rfl⟩:=h
    obtain⟨k1,k2,k3⟩:=qu hi1
    obtain⟨_,_,k4⟩:=qu hi2
    cases zdd hc hl
    refine⟨qq (nth .u8 l i.toNat),?_,rfl⟩
    simp only[zdM,hu,hs]
    rw[if_pos ⟨k1,k2⟩,Nat.mul_one]
    simp only[zaW,zhx he1]
    rw[List.getElem?_map,wV (u:=.u8) k4];rfl
   ·cases h
  ·rename_i k' _ he1 hs
   split at h
   ·rename_i l hl
    simp only[Option.some.injEq,Prod.mk.injEq,Bool.and_eq_true] at h;obtain⟨⟨hi1,hi2⟩,rfl⟩:=h
    obtain⟨k1,k2,k3⟩:=qu hi1
    obtain⟨_,_,k4⟩:=qu hi2
    cases zdG hc hl
    refine⟨.int k' (nth (.int k') l i.toNat),?_,rfl⟩
    simp only[zdM,hu,hs]
    rw[if_pos ⟨k1,k2⟩,Nat.mul_one]
    simp only[zaW,zhx he1]
    rw[List.getElem?_map,wV (u:=.int k') k4];rfl
   ·cases h
  ·cases h
 ·cases h
theorem zkx{h:za}{m off ver lim N:Nat}{cs:List AV}(q:rd h m off ver lim N=some cs){o n lim':Nat}(ho:o+n<=N)(hl:off+o+n<=lim'):rd h m (off+o) ver lim' n=some ((cs.drop o).take n):=by
 unfold rd at q |-
 split at q
 ·split at q
  ·rename_i hc
   cases q
   rw[if_pos ⟨hc.1,hl⟩,List.drop_take,List.drop_drop,List.take_take,Nat.min_eq_left (by omega)]
  ·cases q
 ·split at q
  ·cases q
   rw[if_pos hl,List.drop_take,List.drop_drop,List.take_take,Nat.min_eq_left (by omega)]
  ·cases q
 ·cases q
theorem RSl.part{c c':Bool}{u:U}{l:List (El u)}{m off ver:Nat}{cs:List AV}(h1:X.Φ m)(h2:rd X.h m off ver (off+l.length*u.sz) (l.length*u.sz)=some cs)(h3:RCs X.h X.Φ u l cs){a n:Nat}(hl:a+n<=l.length):
  RSl X.h X.Φ c' u (slice l a (a+n)) (.sl m (off+a*u.sz) n u.sz ver c'):=by
 have hlen:=wP hl
 have hm:a*u.sz+n*u.sz<=l.length*u.sz:=by rw[<- Nat.add_mul];exact Nat.mul_le_mul_right _ hl
 refine .inr ⟨m,off+a*u.sz,ver,_,_,by rw[hlen],.inl rfl,h1,?_,h3.slice hl⟩
 rw[hlen]
 exact zkx h2 hm (Nat.le_refl _)
def zE(a b:Int)(len:Nat):Bool:=decide (0<=a)&&decide (a<=b)&&decide (b<=len)
theorem wJ{a b:Int}{len:Nat}(h:zE a b len=true):0<=a/\a<=b/\b<=len/\a.toNat+(b.toNat-a.toNat)<=len/\b.toNat=a.toNat+(b.toNat-a.toNat):=by
 unfold zE at h;simp only[Bool.and_eq_true,decide_eq_true_eq] at h;omega
def zbU(e:Operand->Option SV):Option Operand->Option (Option Int)
 |none=>some none
 |some x=>match e x with
  |some v=>match znr v with
   |some n=>some (some n)
   |none=>none
  |none=>none
theorem qO(he:EvR X e m){o:Option Operand}{r:Option Int}(h:zbU e o=some r):jX m o=some r:=by
 cases o with
 |none=>exact h
 |some x=>
  simp only[zbU] at h
  split at h
  ·rename_i v hv
   split at h
   ·rename_i n hn
    cases h
    obtain⟨p,h1,h2⟩:=he _ _ hv
    obtain⟨k,rfl⟩:=xH hn h2
    simp only[jX,h1]
   ·cases h
  ·cases h
def zki(hi mx:Option Int)(b:Int):Bool:=match mx with
 |none=>true
 |some m=>decide (m=b)&&hi.isSome
def znG{α:Type}(a:Int)(l:List α):Bool:=zE a ((List.length l:Nat):Int) (List.length l)
def elZ(P:Program)(t:TypeId):Option Nat:=match P.underlying t with
 |some (.slice e)=>wI P e
 |_=>none
theorem zpf{t:TypeId}{z:Nat}(h:elZ P t=some z):zdA P t z=true:=by
 unfold elZ at h
 unfold zdA
 revert h
 cases P.underlying t with
 |none=>intro h;cases h
 |some d=>cases d<;>intro h<;>first|(cases h;done)|(simp only at h |-;simp [h])
def zh3(P:Program)(t:TypeId)(v:SV)(lo hi mx:Option Int)(h:SH):Option (Bool×SV):=
 match v with
 |.a (.str l)=>match P.underlying t,mx with
  |some .string,none=>some (zE (lo.getD 0) (hi.getD l.length) l.length,.a (.str (slice l (lo.getD 0).toNat (hi.getD l.length).toNat)))
  |_,_=>none
 |.a .qj=>match elZ P t with
  |some _=>some (zE (lo.getD 0) (hi.getD (0:Nat)) 0&&zki hi mx (hi.getD (0:Nat)),.a .qj)
  |none=>none
 |.isl u l=>match zdA P t u.sz with
  |true=>some (zE (lo.getD 0) (hi.getD l.length) l.length&&zki hi mx (hi.getD l.length),match mx with
   |none=>.isl u (slice l (lo.getD 0).toNat (hi.getD l.length).toNat)
   |some _=>.cl u (slice l (lo.getD 0).toNat (hi.getD l.length).toNat))
  |false=>none
 |.gs loc n=>match h[loc]? with
  |some (.seq u l k _)=>match Nat.beq k n,zdA P t u.sz with
   |true,true=>some (zE (lo.getD 0) (hi.getD l.length) l.length&&zki hi mx (hi.getD l.length),.sl loc n (lo.getD 0).toNat ((hi.getD l.length).toNat-(lo.getD 0).toNat) mx.isSome)
   |_,_=>none
  |_=>none
 |.zh7 loc n len=>match h[loc]?,mx with
  |some (.seq u l k _),none=>match P.underlying t with
   |some (.array len' e)=>match wI P e with
    |some z=>match Nat.beq k n&&Nat.beq z u.sz&&Nat.beq len' len&&Nat.blt 0 z&&Nat.blt len 549755813888 with
     |true=>some (zE (lo.getD 0) (hi.getD len) len,.sl loc n (lo.getD 0).toNat ((hi.getD len).toNat-(lo.getD 0).toNat) false)
     |false=>none
    |none=>none
   |_=>none
  |_,_=>none
 |.sl loc n off len false=>match h[loc]? with
  |some (.seq u l k _)=>match Nat.beq k n,zdA P t u.sz with
   |true,true=>some (zE (lo.getD 0) (hi.getD len) len&&zki hi mx (hi.getD len),.sl loc n (off+(lo.getD 0).toNat) ((hi.getD len).toNat-(lo.getD 0).toNat) mx.isSome)
   |_,_=>none
  |_=>none
 |_=>none
theorem xi{t:TypeId}{loc off len sz ver:Nat}{lo hi mx:Option Int}{h:za}(hz:zdA P t sz=true)(hb:zE (lo.getD 0) (hi.getD len) len=true)(hm:zki hi mx (hi.getD len)=true):
  qi P t (.sl loc off len sz ver false) lo hi mx h=some (.sl loc (off+(lo.getD 0).toNat*sz) ((hi.getD len).toNat-(lo.getD 0).toNat) sz ver mx.isSome):=by
 obtain⟨el,hu,hs⟩:=zcn hz
 obtain⟨h1,h2,h3,_⟩:=wJ hb
 simp only[qi,hu,hs]
 rw[if_pos ⟨trivial,h1,h2,h3⟩]
 cases mx with
 |none=>simp
 |some k=>simp [zki] at hm;simp [hm]
theorem ziA{t:TypeId}{loc off sz ver len:Nat}{c:Bool}{lo hi mx:Option Int}{h:za}(hz:zdA P t sz=true)(hb:zE (lo.getD 0) (hi.getD len) len=true)(hm:zki hi mx (hi.getD len)=true)(hl:len=0):
  ∃ c',(mx.isSome=true->c'=true)/\qi P t (.sl loc off len sz ver c) lo hi mx h=some (.sl loc (off+(lo.getD 0).toNat*sz) ((hi.getD len).toNat-(lo.getD 0).toNat) sz ver c'):=by
 obtain⟨el,hu,hs⟩:=zcn hz
 obtain⟨h1,h2,h3,_⟩:=wJ hb
 simp only[qi,hu,hs]
 rw[if_pos ⟨trivial,h1,h2,h3⟩]
 cases mx with
 |none=>exact⟨c,(fun h=>absurd h (by simp)),by rw[if_neg (by omega)]⟩
 |some k=>simp [zki] at hm;exact⟨true,(fun _=>rfl),by simp [hm]⟩
theorem xE{t:TypeId}{sz:Nat}{lo hi mx:Option Int}{h:za}(hz:zdA P t sz=true)(hb:zE (lo.getD 0) (hi.getD (0:Nat)) 0=true)(hm:zki hi mx (hi.getD (0:Nat))=true):qi P t .qj lo hi mx h=some .qj:=by
 obtain⟨el,hu,hs⟩:=zcn hz
 obtain⟨h1,h2,h3,_⟩:=wJ hb
 simp only[qi,hu]
 rw[if_pos]
 have e1:lo.getD 0=0:=by omega
 have e2:hi.getD 0=0:=by have:hi.getD 0=hi.getD ((0:Nat):Int):=rfl;omega
 refine⟨e1,e2,?_,?_,by rw[hs];rfl⟩
 ·cases mx with
  |none=>rfl
  |some k=>simp [zki] at hm;simp [hm.1];exact e2
 ·cases mx with
  |none=>simp
  |some k=>simp [zki] at hm;simp [hm.2]
theorem zbZ(hr:RH X){t:TypeId}{a v:SV}{x:AV}{lo hi mx:Option Int}(ha:RV X a x)(h:zh3 P t a lo hi mx X.sh=some (true,v)):∃ y,qi P t x lo hi mx X.h=some y/\RV X v y:=by
 unfold zh3 at h
 split at h
 ·rename_i l
  split at h
  ·rename_i hu
   simp only[Option.some.injEq,Prod.mk.injEq] at h;obtain⟨hb,rfl⟩:=h
   obtain⟨h1,h2,h3,_⟩:=wJ hb
   cases(show x=_ from ha)
   refine⟨_,?_,rfl⟩
   simp only[qi,hu]
   rw[if_pos ⟨rfl,h1,h2,h3⟩];rfl
  ·cases h
 ·split at h
  ·rename_i z hz
   simp only[Option.some.injEq,Prod.mk.injEq,Bool.and_eq_true] at h;obtain⟨⟨hb,hm⟩,rfl⟩:=h
   cases(show x=_ from ha)
   exact⟨.qj,xE (zpf hz) hb hm,rfl⟩
  ·cases h
 ·rename_i u l
  split at h
  ·rename_i hz
   simp only[Option.some.injEq,Prod.mk.injEq,Bool.and_eq_true] at h;obtain⟨⟨hb,hm⟩,rfl⟩:=h
   obtain⟨h1,h2,h3,h4,h5⟩:=wJ hb
   rcases ha with⟨rfl,rfl⟩|⟨m',off,ver,c',cs,rfl,q0,q1,q2,q3⟩
   ·refine⟨.qj,xE hz hb hm,?_⟩
    cases mx with
    |none=>exact .inl ⟨by simp [slice],rfl⟩
    |some k=>exact⟨.inl ⟨by simp [slice],rfl⟩,trivial⟩
   ·by_cases hl0:l=[]
    ·obtain⟨c2,hc3,hc2⟩:=ziA (loc:=m') (off:=off) (ver:=ver) (c:=c') (h:=X.h) hz hb hm (by rw[hl0];rfl)
     refine⟨_,hc2,?_⟩
     have e1:slice l (lo.getD 0).toNat (hi.getD l.length).toNat=[]:=by rw[hl0];simp [slice]
     have hln:l.length=0:=by rw[hl0];rfl
     have k1:(hi.getD l.length).toNat-(lo.getD 0).toNat=0:=by omega
     have k2:(lo.getD 0).toNat=0:=by omega
     rw[e1,k1,k2,Nat.zero_mul,Nat.add_zero]
     have q4:=zkx q2 (o:=0) (n:=0) (lim':=off) (Nat.zero_le _) (by omega)
     have:∀ c0,RSl X.h X.Φ c0 u [] (.sl m' off 0 u.sz ver c2):=fun c0=>.inr ⟨m',off,ver,c2,[],by rfl,.inr rfl,q1,by simpa using q4,.nil⟩
     cases mx with
     |none=>exact this false
     |some k=>exact⟨this true,hc3 rfl⟩
    ·have hc':c'=false:=q0.resolve_right hl0
     subst hc'
     refine⟨_,xi hz hb hm,?_⟩
     rw[show slice l (lo.getD 0).toNat (hi.getD l.length).toNat=slice l (lo.getD 0).toNat ((lo.getD 0).toNat+((hi.getD l.length).toNat-(lo.getD 0).toNat)) from by rw[<- h5]]
     cases mx with
     |none=>exact RSl.part (c:=false) q1 q2 q3 h4
     |some k=>exact⟨RSl.part (c:=false) q1 q2 q3 h4,rfl⟩
  ·cases h
 ·split at h
  ·rename_i loc n _ u l k md hb
   split at h
   ·rename_i hk hz
    have hk:=zb hk
    subst hk
    simp only[Option.some.injEq,Prod.mk.injEq,Bool.and_eq_true] at h;obtain⟨⟨hbb,hm⟩,rfl⟩:=h
    obtain⟨h1,h2,h3,h4,h5⟩:=wJ hbb
    obtain⟨hone,o,ho,hc⟩:=ha
    have hQ:=(hc _ _ _ _ hb).2 rfl
    cases o with
    |none=>
     obtain⟨rfl,hl⟩:=hQ
     rw[hl] at hbb hm h4
     refine⟨.qj,xE hz hbb hm,rfl,none,ho,fun u' l' k' md' hb'=>?_⟩
     rw[hb] at hb';cases hb'
     exact⟨Nat.le_refl _,fun _=>⟨by rw[hl];exact h4,rfl⟩⟩
    |some p=>
     obtain⟨m',ver⟩:=p
     cases(show x=_ from hQ)
     refine⟨_,xi hz hbb hm,rfl,some (m',ver),ho,fun u' l' k' md' hb'=>?_⟩
     rw[hb] at hb';cases hb'
     exact⟨Nat.le_refl _,fun _=>⟨h4,by rw[Nat.zero_add]⟩⟩
   ·cases h
  ·cases h
 ·split at h
  ·rename_i loc n len _ _ u l k md hb
   split at h
   ·rename_i len' el hu
    split at h
    ·rename_i z hz
     split at h
     ·rename_i hall
      simp only[Bool.and_eq_true] at hall
      obtain⟨⟨⟨⟨hk,hz2⟩,hl2⟩,hzp⟩,h39⟩:=hall
      have hk:=zb hk;have hz2:=zb hz2;have hl2:=zb hl2;have hzp:0+1<=z:=Nat.le_of_ble_eq_true hzp;have h39:len+1<=549755813888:=Nat.le_of_ble_eq_true h39
      subst hk;subst hl2
      simp only[Option.some.injEq,Prod.mk.injEq] at h;obtain⟨hbb,rfl⟩:=h
      obtain⟨h1,h2,h3,h4,h5⟩:=wJ hbb
      obtain⟨hone,o,ho,hc⟩:=ha
      obtain⟨hl,m',rfl,rfl⟩:=(hc _ _ _ _ hb).2 rfl
      obtain⟨cells,minv,tt,q1,q2,q3,q4⟩:=hr.blk _ _ _ hb ho
      obtain⟨z',rfl⟩:∃ z',z=z'+1:=⟨z-1,by omega⟩
      have hcl:cells.length=len'*(z'+1):=by rw[q3.1,<- hl,<- hz2]
      refine⟨.sl m' ((lo.getD 0).toNat*(z'+1)) ((hi.getD len').toNat-(lo.getD 0).toNat) (z'+1) 0 false,?_,rfl,some (m',0),ho,fun u' l' k' md' hb'=>?_⟩
      ·simp only[qi,hu,hz,q1]
       rw[if_pos ⟨rfl,h1,h2,h3,trivial,by omega,by rw[hcl,Nat.zero_add],by rw[hcl,hz2]⟩,Nat.zero_add]
      ·rw[hb] at hb';cases hb'
       exact⟨Nat.le_refl _,fun _=>⟨by omega,by rw[hz2]⟩⟩
     ·cases h
    ·cases h
   ·cases h
  ·cases h
 ·split at h
  ·rename_i loc n off len _ u l k md hb
   split at h
   ·rename_i hk hz
    have hk:=zb hk
    subst hk
    simp only[Option.some.injEq,Prod.mk.injEq,Bool.and_eq_true] at h;obtain⟨⟨hbb,hm⟩,rfl⟩:=h
    obtain⟨h1,h2,h3,h4,h5⟩:=wJ hbb
    obtain⟨hone,o,ho,hc⟩:=ha
    obtain⟨hl,hQ⟩:=(hc _ _ _ _ hb).2 rfl
    cases o with
    |none=>
     cases(show x=_ from hQ)
     have hl0:l=[]:=hr.blk _ _ _ hb ho
     have hlen:len=0:=by rw[hl0] at hl;simp at hl;omega
     subst hlen
     refine⟨.qj,xE hz hbb hm,rfl,none,ho,fun u' l' k' md' hb'=>?_⟩
     rw[hb] at hb';cases hb'
     exact⟨Nat.le_refl _,fun _=>⟨by omega,rfl⟩⟩
    |some p=>
     obtain⟨m',ver⟩:=p
     cases(show x=_ from hQ)
     refine⟨_,xi hz hbb hm,rfl,some (m',ver),ho,fun u' l' k' md' hb'=>?_⟩
     rw[hb] at hb';cases hb'
     exact⟨Nat.le_refl _,fun _=>⟨by omega,by rw[Nat.add_mul]⟩⟩
   ·cases h
  ·cases h
 ·cases h
theorem zhf(hr:RH X)(he:EvR X e m){t:TypeId}{ox:Operand}{ol oh om:Option Operand}{a v:SV}{lo hi mx:Option Int}(hx:e ox=some a)(h1:zbU e ol=some lo)(h2:zbU e oh=some hi)(h3:zbU e om=some mx)(h:zh3 P t a lo hi mx X.sh=some (true,v)):
  ∃ rs,mop P m X.h (.slice t ox ol oh om)=some rs/\SRR X (.val v X.sh) rs:=by
 obtain⟨p,q1,q2⟩:=he _ _ hx
 obtain⟨y,q3,q4⟩:=zbZ hr q2 h
 exact⟨_,by simp only[mop,q1,qO he h1,qO he h2,qO he h3,zbw q3,rv],.same hr q4⟩
def zqA(P:Program)(t:TypeId)(v:SV)(h:SH):Option Nat:=match P.underlying t,v with
 |some .string,.a (.str l)=>some l.length
 |some (.array n _),_=>some n
 |some (.slice _),.a .qj=>some 0
 |some (.slice _),.isl _ l=>some l.length
 |some (.slice _),.cl _ l=>some l.length
 |some (.slice _),.ul _ l=>some l.length
 |some (.slice _),.gs loc n=>match h[loc]? with
  |some (.seq _ l m _)=>match Nat.beq m n with
   |true=>some l.length
   |false=>none
  |_=>none
 |some (.slice _),.sl loc n _ len _=>match h[loc]? with
  |some (.seq _ l m _)=>match Nat.beq m n with
   |true=>some len
   |false=>none
  |_=>none
 |some (.slice _),.lsl n=>some n
 |some (.slice _),.csl _ _ n _=>some n
 |some (.map _ _),.a .zcd=>some 0
 |some (.map _ _),.map loc=>match h[loc]? with
  |some (.map ks _ _)=>some ks.length
  |some (.kv _ _ l _)=>some l.length
  |_=>none
 |some (.map _ _),.zoW ks _=>some ks.length
 |_,_=>none
theorem ziY(hr:RH X){t:TypeId}{v:SV}{x:AV}{n:Nat}(hv:RV X v x)(h:zqA P t v X.sh=some n):zkf P t x X.h=some (.int .i64 (n:Int)):=by
 unfold zqA at h
 unfold zkf
 split at h
 ·rename_i hu;cases h;cases(show x=_ from hv);rw[hu]
 ·rename_i hu;cases h;rw[hu]
 ·rename_i hu;cases h;cases(show x=_ from hv);rw[hu];rfl
 ·rename_i hu;cases h;rw[hu];rcases hv with⟨rfl,rfl⟩|⟨m,off,ver,c',cs,rfl,_⟩<;>rfl
 ·rename_i hu;cases h;rw[hu];rcases hv.1 with⟨rfl,rfl⟩|⟨m,off,ver,c',cs,rfl,_⟩<;>rfl
 ·rename_i hu;cases h;rw[hu];obtain⟨c,hv⟩:=hv;rcases hv with⟨rfl,rfl⟩|⟨m,off,ver,c',cs,rfl,_⟩<;>rfl
 ·rename_i hu
  rw[hu]
  split at h
  ·rename_i l k md hb
   split at h
   ·rename_i hk
    cases h
    have hk:=zb hk
    subst hk
    obtain⟨hone,o,ho,hc⟩:=hv
    have hQ:=(hc _ _ _ _ hb).2 rfl
    cases o with
    |none=>obtain⟨rfl,hl⟩:=hQ;rw[hl];rfl
    |some p=>cases(show x=_ from hQ);rfl
   ·cases h
  ·cases h
 ·rename_i hu
  rw[hu]
  split at h
  ·rename_i l k md hb
   split at h
   ·rename_i hk
    cases h
    have hk:=zb hk
    subst hk
    obtain⟨hone,o,ho,hc⟩:=hv
    obtain⟨hl,hQ⟩:=(hc _ _ _ _ hb).2 rfl
    cases o with
    |none=>
     cases(show x=_ from hQ)
     have hl0:=hr.blk _ _ _ hb ho
     have hl0:_=[]:=hl0
     rw[hl0] at hl;simp at hl;rw[hl.2];rfl
    |some p=>cases(show x=_ from hQ);rfl
   ·cases h
  ·cases h
 ·rename_i hu;cases h;rw[hu];rcases hv with⟨rfl,rfl⟩|⟨m,off,sz,ver,c,rfl⟩<;>rfl
 ·rename_i hu;cases h;obtain⟨m,_,rfl⟩:=hv;rw[hu]
 ·rename_i hu;cases h;cases(show x=_ from hv);rw[hu];rfl
 ·rename_i hu
  rw[hu]
  split at h
  ·rename_i ks vs md hb
   cases h
   obtain⟨m,⟨ver,hσ⟩,rfl⟩:=hv
   obtain⟨m',es,e1,h1,h2,h3⟩:=hr.blk _ _ _ hb hσ
   cases e1
   have:=h2.length
   simp only[List.length_map] at this
   simp only[h1,this]
  ·rename_i u v l md hb
   cases h
   obtain⟨m,⟨ver,hσ⟩,rfl⟩:=hv
   obtain⟨m',es,e1,h1,h2,h3⟩:=hr.blk _ _ _ hb hσ
   cases e1
   have:=h2.length
   simp only[List.length_map,kvK] at this
   simp only[h1,this]
  ·cases h
 ·rename_i hu
  cases h
  rw[hu]
  obtain⟨m,es,rfl,_,h1,h2,h3⟩:=hv
  have:=h2.length
  simp only[List.length_map] at this
  simp only[h1,this]
 ·cases h
end
section
variable {P:Program} {gl:GL} {X:Gst} {e:Operand->Option SV} {m:Operand->Option AV}
def znl(P:Program)(el:TypeId)(off n lim:Nat)(cs:List SV)(i:Int):Option (Bool×SV):=
 match uOf P 6 el,wI P el,u8s ((cs.drop off).take (n+n)) with
 |some (.pair .u8 .u8),some 2,some l=>match Nat.beq l.length (n+n)&&Nat.ble (off+(n+n)) lim with
  |true=>some (inb i n,.zcP (.pair .u8 .u8) (nth .u8 l (i.toNat+i.toNat),nth .u8 l (i.toNat+i.toNat+1)) 0)
  |false=>none
 |_,_,_=>none
def zeK(P:Program)(gl:GL)(t:TypeId)(x:SV)(i:Int):Option (Bool×SV):=match x with
 |.zdD g off lim=>match P.underlying t,gl[g]? with
  |some (.array n el),some (some cs)=>match Nat.ble (off+n) lim,P.underlying el,wI P el with
   |true,some (.int .u8),some 1=>match u8s ((cs.drop off).take n) with
    |some l=>some (inb i n&&inb i l.length,.zcP .u8 (nth .u8 l i.toNat) 0)
    |none=>none
   |true,some (.int k),some 1=>match ints k ((cs.drop off).take n) with
    |some l=>some (inb i n&&inb i l.length,.zcP (.int k) (nth (.int k) l i.toNat) 0)
    |none=>none
   |_,_,_=>znl P el off n lim cs i
  |_,_=>none
 |_=>none
theorem zeL(hr:RH X)(hg:RGl P gl X){t:TypeId}{a v:SV}{x:AV}{k:IntKind}{i:Int}(ha:RV X a x)(h:zeK P gl t a i=some (true,v)):∃ y,zR P t x (.int k i)=some y/\RV X v y:=by
 unfold zeK at h
 split at h
 ·rename_i g off lim
  split at h
  ·rename_i n el cs hu hcs
   obtain⟨_,hΦ,cells,hrow,hcells⟩:=hg g cs hcs
   cases(show x=_ from ha)
   have hsub:=(hcells.drop off).take n
   have one:∀ (y:AV) (j:Nat),((cells.drop off).take n)[j]?=some y->rd X.h g (off+j) 0 (off+j+1) 1=some [y]:=fun y j hy=>by
    unfold rd
    rw[hrow]
    simp only[Nat.le_refl,if_true]
    rw[List.getElem?_take] at hy
    split at hy
    ·rw[List.getElem?_drop] at hy
     congr 1
     obtain⟨hlt,e⟩:=List.getElem?_eq_some_iff.1 hy
     rw[List.drop_eq_getElem_cons hlt,e];rfl
    ·cases hy
   split at h
   ·rename_i hle he1 hs1
    split at h
    ·rename_i l hl
     simp only[Option.some.injEq,Prod.mk.injEq,Bool.and_eq_true] at h;obtain⟨⟨hi,hi2⟩,rfl⟩:=h
     obtain⟨h1,h2,h3⟩:=qu hi
     obtain⟨h4,h5,h6⟩:=qu hi2
     have hle:=Nat.le_of_ble_eq_true hle
     have hx:=zdd hsub hl
     have hy:((cells.drop off).take n)[i.toNat]?=some (qq (nth .u8 l i.toNat)):=by rw[hx,List.getElem?_map,show l[i.toNat]?=some (nth .u8 l i.toNat) from wV (u:=.u8) h6];rfl
     refine⟨.ptr g (off+i.toNat*1) 0 lim,?_,g,off+i.toNat,0,lim,[qq (nth .u8 l i.toNat)],by rw[Nat.mul_one,Nat.add_zero],hΦ,?_,⟨_,one _ _ hy⟩,rfl,rfl⟩
     ·simp only[zR,hu,hs1]
      rw[if_pos ⟨h1,h2⟩]
     ·show off+i.toNat+1<=lim;omega
    ·cases h
   ·rename_i k' hnu hle he1 hs1
    split at h
    ·rename_i l hl
     simp only[Option.some.injEq,Prod.mk.injEq,Bool.and_eq_true] at h;obtain⟨⟨hi,hi2⟩,rfl⟩:=h
     obtain⟨h1,h2,h3⟩:=qu hi
     obtain⟨h4,h5,h6⟩:=qu hi2
     have hle:=Nat.le_of_ble_eq_true hle
     have hx:=zdG hsub hl
     have hy:((cells.drop off).take n)[i.toNat]?=some (.int k' (nth (.int k') l i.toNat)):=by rw[hx,List.getElem?_map,show l[i.toNat]?=some (nth (.int k') l i.toNat) from wV (u:=.int k') h6];rfl
     refine⟨.ptr g (off+i.toNat*1) 0 lim,?_,g,off+i.toNat,0,lim,[.int k' (nth (.int k') l i.toNat)],by rw[Nat.mul_one,Nat.add_zero],hΦ,?_,⟨_,one _ _ hy⟩,rfl,rfl⟩
     ·simp only[zR,hu,hs1]
      rw[if_pos ⟨h1,h2⟩]
     ·show off+i.toNat+1<=lim;omega
    ·cases h
   ·unfold znl at h
    split at h
    ·rename_i l hu6 hs2 hl
     split at h
     ·rename_i hb
      simp only[Option.some.injEq,Prod.mk.injEq] at h;obtain⟨hi,rfl⟩:=h
      rw[Bool.and_eq_true] at hb
      have hll:=zb hb.1
      have hle:=Nat.le_of_ble_eq_true hb.2
      obtain⟨h1,h2,h3⟩:=qu hi
      have hx:=zdd ((hcells.drop off).take (n+n)) hl
      have get:∀ j,j<n+n->cells[off+j]?=some (qq (nth .u8 l j)):=fun j hj=>by
       have e0:((cells.drop off).take (n+n))[j]?=some (qq (nth .u8 l j)):=by
        rw[hx,List.getElem?_map,show l[j]?=some (nth .u8 l j) from wV (u:=.u8) (by omega)];rfl
       rw[List.getElem?_take,if_pos hj,List.getElem?_drop] at e0
       exact e0
      have g0:=get (i.toNat+i.toNat) (by omega)
      have g1:=get (i.toNat+i.toNat+1) (by omega)
      have hrd:rd X.h g (off+(i.toNat+i.toNat)) 0 (off+(i.toNat+i.toNat)+2) 2=some [qq (nth .u8 l (i.toNat+i.toNat)),qq (nth .u8 l (i.toNat+i.toNat+1))]:=by
       unfold rd
       rw[hrow]
       simp only[Nat.le_refl,if_true]
       congr 1
       obtain⟨l0,e0⟩:=List.getElem?_eq_some_iff.1 g0
       obtain⟨l1,e1⟩:=List.getElem?_eq_some_iff.1 g1
       rw[List.drop_eq_getElem_cons l0,e0,show off+(i.toNat+i.toNat)+1=off+(i.toNat+i.toNat+1) from by omega,List.drop_eq_getElem_cons l1,e1];rfl
      refine⟨.ptr g (off+i.toNat*2) 0 lim,?_,g,off+(i.toNat+i.toNat),0,lim,_,by rw[Nat.add_zero,Nat.mul_two],hΦ,?_,⟨_,hrd⟩,rfl,?_⟩
      ·simp only[zR,hu,hs2]
       rw[if_pos ⟨h1,h2⟩]
      ·show off+(i.toNat+i.toNat)+2<=lim;omega
      ·exact⟨[_],[_],rfl,rfl,rfl⟩
     ·cases h
    ·cases h
  ·cases h
 ·cases h
theorem zb7(hr:RH X)(hg:RGl P gl X)(he:EvR X e m){t:TypeId}{ox oi:Operand}{a b v:SV}{i:Int}(hx:e ox=some a)(hi:e oi=some b)(hb:znr b=some i)(h:zeK P gl t a i=some (true,v)):∃ rs,mop P m X.h (.indexAddr t ox oi)=some rs/\SRR X (.val v X.sh) rs:=by
 obtain⟨p,h1,h2⟩:=he _ _ hx
 obtain⟨q,h3,h4⟩:=he _ _ hi
 obtain⟨k,rfl⟩:=xH hb h4
 obtain⟨y,h5,h6⟩:=zeL hr hg (k:=k) h2 h
 exact⟨_,by simp only[mop,h1,h3,h5,rv],.same hr h6⟩
end
end Go.Sx
namespace Go.Sx
open Go Go.Gx Go.Mx
variable [qE]
def qw:Nat:=549755813888
section
variable {P:Program} {gl:GL} {X:Gst} {e:Operand->Option SV} {m:Operand->Option AV}
theorem zeR(b:UInt8):toByte (qq b)=some b:=by
 have:=b.toNat_lt
 unfold qq toByte
 simp only
 rw[if_pos (by omega)]
 simp
theorem zaD(l:List UInt8):wH (l.map qq)=some l:=by
 induction l with
 |nil=>rfl
 |cons b l ih=>simp only[List.map_cons,wH,zeR,ih]
theorem RCs.bytes{h:za}{Φ:Nat->Prop}{l:List UInt8}{cs:List AV}(q:RCs h Φ .u8 l cs):cs=l.map qq:=by
 have hl:=q.1
 simp only[U.sz,Nat.mul_one] at hl
 refine List.ext_getElem? fun i=>?_
 by_cases hi:i<l.length
 ·have h1:=q.2 i l[i] (List.getElem?_eq_getElem hi)
  have h2:part 1 cs i=[qq l[i]]:=h1
  rw[zN,Nat.mul_one] at h2
  have h3:=congrArg (fun r:List AV=>r[0]?) h2
  simp only[List.getElem?_take,List.getElem?_drop,Nat.add_zero] at h3
  rw[List.getElem?_map,List.getElem?_eq_getElem hi]
  simpa using h3
 ·rw[List.getElem?_eq_none (by omega),List.getElem?_eq_none (by rw[List.length_map];omega)]
theorem RCs.ofBytes{h:za}{Φ:Nat->Prop}(l:List UInt8):RCs h Φ .u8 l (l.map qq):=by
 refine⟨by simp [U.sz],fun i e hi=>?_⟩
 show part 1 _ i=[qq e]
 rw[zN,Nat.mul_one]
 have hl:=(List.getElem?_eq_some_iff.1 hi).1
 rw[List.drop_eq_getElem_cons (by simpa using hl)]
 simp only[List.take_succ_cons,List.take_zero,List.getElem_map]
 have:l[i]=e:=(List.getElem?_eq_some_iff.1 hi).2
 rw[this]
def zmo(P:Program)(s d:TypeId)(x:SV)(h:SH):Option (Bool×SV×SH):=
 match P.underlying s,P.underlying d,x with
 |some _,some (.int .u8),.a (.int _ n)=>some (true,.u8 (jc n),h)
 |some _,some (.int .u8),.u8 b=>some (true,.u8 b,h)
 |some _,some (.int k),.a (.int _ n)=>some (true,.a (.int k (k.wrap n)),h)
 |some _,some (.int k),.u8 b=>some (true,.a (.int k (k.wrap (b.toNat:Int))),h)
 |some .string,some .string,.a (.str l)=>some (true,.a (.str l),h)
 |some .string,some (.slice e),.a (.str l)=>match P.underlying e with
  |some (.int .u8)=>some (Nat.blt l.length qw,.gs h.length 0,h++[.seq .u8 l 0 0])
  |_=>none
 |some (.slice e),some .string,x=>match P.underlying e with
  |some (.int .u8)=>match reads .u8 x h with
   |some l=>some (true,.a (.str l),h)
   |none=>none
  |_=>none
 |some (.slice _),some (.slice e),.gs loc n=>match P.underlying e,h[loc]? with
  |some (.int .u8),some (.seq u l k 0)=>match Nat.beq k n&&(Nat.beq s d&&Nat.blt k 65536) with
   |true=>some (Nat.blt 0 l.length,.gs loc n,h)
   |false=>none
  |_,_=>none
 |some (.pointer t),some .unsafePointer,.ptr loc off lim=>match h[loc]? with
  |some (.cells _ _ _)=>match wide P t&&Nat.blt off lim with
   |true=>some (true,.ptr loc off lim,h)
   |false=>none
  |_=>none
 |some .unsafePointer,some (.pointer u),.ptr loc off lim=>match h[loc]? with
  |some (.cells _ _ (some T))=>match Nat.beq T u&&(Nat.beq off 0&&(Nat.blt 0 (P.cellsOf u)&&Nat.ble (P.cellsOf u) lim)) with
   |true=>some (true,.ptr loc off lim,h)
   |false=>none
  |_=>none
 |_,_,_=>none
theorem qg{a b:Nat}(h:Nat.blt a b=true):a<b:=by simpa [Nat.blt_eq] using h
theorem kF(hr:RH X){u:U}{l:List (El u)}{cells:List AV}{tt:Option TypeId}(n:Nat:=0)(hn:(mkS n).or tt=tt:=by rfl)(hc:RCs X.h X.Φ u l cells):∃ Y,Stp X Y/\Y.sh=X.sh++[.seq u l n 0]/\Y.h=X.h++[Blk.row cells 0 0 0 false tt]/\RV Y (.gs X.sh.length n) (.sl X.h.length 0 l.length u.sz 0 false):=by
 refine⟨_,Stp.push hr (b:=.seq u l n 0) (blk:=.row cells 0 0 0 false tt) (by simp [SB.md]) (fun hle=>⟨cells,0,tt,?_,Nat.le_refl _,hc.le hle.h hle.Φ,fun e=>by cases e⟩),rfl,rfl,rfl,some (X.h.length,0),?_,fun u' l' k' md' hb'=>?_⟩
 ·show(X.h++[_])[X.h.length]?=_
  rw[hn,Arr.zt (Nat.le_refl _),Nat.sub_self];rfl
 ·show(X.σ++[_])[X.sh.length]?=_
  rw[<- hr.len,List.getElem?_append_right (Nat.le_refl _),Nat.sub_self];rfl
 ·have hb':(X.sh++[SB.seq u l n 0])[X.sh.length]?=some (.seq u' l' k' md'):=hb'
  rw[List.getElem?_append_right (Nat.le_refl _),Nat.sub_self] at hb'
  cases hb'
  exact⟨Nat.le_refl _,fun _=>rfl⟩
theorem zha(hr:RH X){s d:TypeId}{a v:SV}{x:AV}{sh':SH}(ha:RV X a x)(h:zmo P s d a X.sh=some (true,v,sh')):∃ y h',wA P s d x X.h=some (y,h')/\∃ Y,Stp X Y/\Y.sh=sh'/\Y.h=h'/\RV Y v y:=by
 unfold zmo at h
 split at h
 ·rename_i k n hs hd
  cases h;cases(show x=_ from ha)
  exact⟨.int .u8 (IntKind.u8.wrap n),_,by simp only[wA,hs,hd],X,.refl hr,rfl,rfl,congrArg (AV.int .u8) (zdi n)⟩
 ·rename_i b hs hd
  cases h;cases(show x=_ from ha)
  exact⟨.int .u8 (IntKind.u8.wrap (b.toNat:Int)),_,by simp only[wA,hs,hd],X,.refl hr,rfl,rfl,congrArg (AV.int .u8) (zf7 b)⟩
 ·rename_i hs hd
  cases h;cases(show x=_ from ha)
  exact⟨_,_,by simp only[wA,hs,hd],X,.refl hr,rfl,rfl,rfl⟩
 ·rename_i hs hd
  cases h;cases(show x=_ from ha)
  exact⟨_,_,by simp only[wA,hs,hd],X,.refl hr,rfl,rfl,rfl⟩
 ·rename_i hs hd
  cases h;cases(show x=_ from ha)
  exact⟨_,_,by simp only[wA,hs,hd],X,.refl hr,rfl,rfl,rfl⟩
 ·rename_i el l hs hd
  split at h
  ·rename_i he
   simp only[Option.some.injEq,Prod.mk.injEq] at h;obtain⟨hl,rfl,rfl⟩:=h
   cases(show x=_ from ha)
   obtain⟨Y,h1,h2,h3,h4⟩:=kF hr (u:=.u8) (l:=l) (cells:=l.map qq) (tt:=none) (hc:=.ofBytes l)
   refine⟨_,_,?_,Y,h1,h2,h3,h4⟩
   simp only[wA,hs,hd,he]
   rw[if_pos (show l.length<549755813888 from qg hl)];rfl
  ·cases h
 ·rename_i el hs hd
  split at h
  ·rename_i he
   split at h
   ·rename_i l hl
    cases h
    refine⟨.str l,X.h,?_,X,.refl hr,rfl,rfl,rfl⟩
    rcases wE hr ha hl with⟨rfl,rfl⟩|⟨m',off,ver,clip,cs,rfl,q1,q2⟩
    ·simp only[wA,hs,hd,he]
    ·simp only[U.sz,Nat.mul_one] at q1
     simp only[wA,hs,hd,he,U.sz,q1,q2.bytes,zaD]
   ·cases h
  ·cases h
 ·rename_i t0 el loc n hs hd
  split at h
  ·rename_i u l k he hb
   split at h
   ·rename_i hc
    simp only[Bool.and_eq_true] at hc
    obtain⟨hk,hsd,hlt⟩:=hc
    cases zb hk
    cases zb hsd
    simp only[Option.some.injEq,Prod.mk.injEq] at h;obtain⟨hl,rfl,rfl⟩:=h
    have hl:=qg hl
    obtain⟨hone,o,ho,hc⟩:=ha
    have hQ:=(hc _ _ _ _ hb).2 rfl
    have hB:=hr.blk _ _ _ hb ho
    cases o with
    |none=>obtain⟨_,h0⟩:=hQ;omega
    |some p=>
     obtain⟨m,ver⟩:=p
     cases(show x=_ from hQ)
     obtain⟨cells,minv,tt,q1,q2,q3,q4⟩:=hB
     rw[zke hlt] at q1
     have q1:X.h[m]?=some (.row cells ver minv 0 false tt):=q1
     have hm:=hr.lt _ _ _ ho
     have hte:t0=el:=by rw[hs] at hd;cases hd;rfl
     subst hte
     refine⟨_,X.h.set m (.row cells ver minv 0 false none),?_,⟨X.h.set m (.row cells ver minv 0 false none),X.Φ,X.σ,X.sh⟩,?_,rfl,rfl,hone,some (m,ver),ho,fun u2 l2 k2 md2 hb2=>?_⟩
     ·simp only[wA,hs,hd,he,q1]
      rw[if_pos trivial,if_pos ⟨q2,hl⟩]
     ·refine Stp.turn hr hb ho (b':=.seq u l n 0) (by simp) (fun m' hm' hne=>Arr.zk fun e=>hne ver (e ▸ rfl)) (fun _ _ _=>.inr rfl) (by show _<=(X.h.set _ _).length;rw[Arr.length_set];exact Nat.le_refl _) (fun m=>⟨.inl,fun h=>h.elim id fun h=>by cases h.1⟩) (z7 ho).symm (z7 hb).symm
       (fun _ _ e=>by cases e;exact⟨by show _<(X.h.set _ _).length;rw[Arr.length_set];exact hm,.inl ⟨_,rfl⟩⟩) (fun m v e=>⟨v,e⟩)
       (fun u3 l3 k3 md3 e=>by cases e;exact⟨l,n,0,rfl,Nat.le_refl _,fun _=>⟨rfl,rfl⟩⟩) (fun h=>h) (fun h=>h)
       fun hle=>⟨cells,minv,none,by rw[zke hlt];exact Arr.zj hm,q2,q3.le hle.h hle.Φ,fun e=>by cases e⟩
     ·rw[hb] at hb2;cases hb2;exact⟨Nat.le_refl _,fun _=>rfl⟩
   ·cases h
  ·cases h
 ·rename_i t loc off lim hs hd
  split at h
  ·rename_i l md mk hb
   split at h
   ·rename_i hc
    simp only[Bool.and_eq_true] at hc
    cases h
    obtain⟨m,⟨v,hσ⟩,rfl⟩:=ha
    obtain⟨m',l',tt,e,h1,h2⟩:=hr.blk _ _ _ hb hσ
    cases e
    refine⟨_,X.h,?_,X,.refl hr,rfl,rfl,m,⟨_,hσ⟩,rfl⟩
    simp only[wA,hs,hd,h1]
    rw[if_pos ⟨hc.1,qg hc.2,Nat.le_refl _⟩]
   ·cases h
  ·cases h
 ·rename_i u loc off lim hs hd
  split at h
  ·rename_i l md T hb
   split at h
   ·rename_i hc
    simp only[Bool.and_eq_true] at hc
    obtain⟨c1,c2,c3,c4⟩:=hc
    cases h
    obtain⟨m,⟨v,hσ⟩,rfl⟩:=ha
    obtain⟨m',l',tt,e,h1,h2⟩:=hr.blk _ _ _ hb hσ
    cases e
    have h1:X.h[m]?=some (.row l' 0 0 0 false (some T)):=h1
    refine⟨_,X.h,?_,X,.refl hr,rfl,rfl,m,⟨_,hσ⟩,rfl⟩
    simp only[wA,hs,hd,h1]
    rw[if_pos ⟨zb c1,zb c2,Nat.le_refl _,qg c3,Nat.le_of_ble_eq_true c4⟩]
   ·cases h
  ·cases h
 ·cases h
theorem zd8(hr:RH X)(he:EvR X e m){s d:TypeId}{x:Operand}{a v:SV}{sh':SH}(hx:e x=some a)(h:zmo P s d a X.sh=some (true,v,sh')):∃ rs,mop P m X.h (.convert s d x)=some rs/\SRR X (.val v sh') rs:=by
 obtain⟨p,h1,h2⟩:=he _ _ hx
 obtain⟨y,h',h3,Y,h4,h5,h6,h7⟩:=zha hr h2 h
 exact⟨.val y h',by simp only[mop,h1,h3,rvh],Y,h4,h5,h6,h7⟩
def zg8(P:Program)(t:TypeId)(v:SV):Option SV:=match isIface P t,v with
 |false,.ifc t' v=>match Nat.beq t' t with
  |true=>some (.tup [v,.a (.bool true)])
  |false=>match zdb P t with
   |some z=>some (.tup [z,.a (.bool false)])
   |none=>none
 |false,.a .xQ=>match zdb P t with
  |some z=>some (.tup [z,.a (.bool false)])
  |none=>none
 |_,_=>none
theorem ze1(hr:RH X)(he:EvR X e m){x:Operand}{t t0:TypeId}{a v:SV}(hx:e x=some a)(h:zg8 P t a=some v):∃ rs,mop P m X.h (.typeAssert x t0 t true)=some rs/\SRR X (.val v X.sh) rs:=by
 obtain⟨p,h1,h2⟩:=he _ _ hx
 unfold zg8 at h
 have hif:isIface P t=false->∃ d,P.underlying t=some d/\∀ ms,d≠.interface ms:=fun hi=>by
  unfold isIface at hi
  split at hi
  ·cases hi
  ·cases hi
  ·rename_i h3 h4
   cases hu:P.underlying t with
   |none=>exact absurd hu h4
   |some d=>exact⟨d,rfl,fun ms e=>h3 ms (e ▸ hu)⟩
 split at h
 ·rename_i t' w hi
  obtain⟨d,hu,hd⟩:=hif hi
  obtain⟨y,rfl,h3⟩:=h2
  split at h
  ·rename_i ht
   have ht:=zb ht
   cases h
   refine⟨.val (.tup [y,.bool true]) X.h,?_,.same hr ⟨_,rfl,y,_,rfl,h3,_,_,rfl,rfl,rfl⟩⟩
   simp only[mop,h1,hu]
   cases d<;>first|exact absurd rfl (hd _)|rw[if_pos ht]
  ·rename_i ht
   have ht:¬ t'=t:=fun e=>by rw[e,Nat.beq_refl] at ht;cases ht
   split at h
   ·rename_i z hz
    cases h
    obtain⟨zx,h4,h5⟩:=qb (X:=X) hz
    refine⟨.val (.tup [zx,.bool false]) X.h,?_,.same hr ⟨_,rfl,zx,_,rfl,h5,_,_,rfl,rfl,rfl⟩⟩
    simp only[mop,h1,hu]
    cases d<;>first|exact absurd rfl (hd _)|rw[if_neg ht,h4]
   ·cases h
 ·rename_i hi
  obtain⟨d,hu,hd⟩:=hif hi
  cases(show p=_ from h2)
  split at h
  ·rename_i z hz
   cases h
   obtain⟨zx,h4,h5⟩:=qb (X:=X) hz
   refine⟨.val (.tup [zx,.bool false]) X.h,?_,.same hr ⟨_,rfl,zx,_,rfl,h5,_,_,rfl,rfl,rfl⟩⟩
   simp only[mop,h1,hu]
   cases d<;>first|exact absurd rfl (hd _)|rw[h4]
  ·cases h
 ·cases h
def zoO:TypeDesc->SV->SV->Option Bool
 |.int .u8,.u8 a,.u8 b=>some (a==b)
 |.int _,.a (.int k x),.a (.int k' y)=>if k=k' then some (x==y) else none
 |.string,.a (.str a),.a (.str b)=>some (a==b)
 |.bool,.a (.bool a),.a (.bool b)=>some (a==b)
 |_,_,_=>none
theorem zhl{d:TypeDesc}{a b:SV}{x y:AV}{r:Bool}(ha:RV X a x)(hb:RV X b y)(h:zoO d a b=some r):zfD d x y=some r:=by
 unfold zoO at h
 split at h
 ·cases h;cases(show x=_ from ha);cases(show y=_ from hb);simp only[zfD,if_true,u8c]
 ·cases(show x=_ from ha);cases(show y=_ from hb);exact h
 ·cases(show x=_ from ha);cases(show y=_ from hb);exact h
 ·cases(show x=_ from ha);cases(show y=_ from hb);exact h
 ·cases h
def zh2:TypeDesc->SV->Bool
 |.int .u8,.u8 _=>true
 |.int k,.a (.int k' _)=>k'==k
 |.string,.a (.str _)=>true
 |.bool,.a (.bool _)=>true
 |_,_=>false
theorem zbX{d:TypeDesc}{a:SV}{x:AV}(ha:RV X a x)(h:zh2 d a=true):zfj d x=true:=by
 unfold zh2 at h
 split at h
 ·cases(show x=_ from ha);rfl
 ·cases(show x=_ from ha);exact h
 ·cases(show x=_ from ha);rfl
 ·cases(show x=_ from ha);rfl
 ·cases h
def zld(d:TypeDesc)(k:SV):List SV->List SV->Nat->Option (List (Bool×Option (Nat×SV)))
 | [],[],_=>some [(true,none)]
 |k'::ks,v::vs,i=>match zoO d k k',zld d k ks vs (i+1) with
  |some b,some r=>some ((b,some (i,v))::r)
  |_,_=>none
 |_,_,_=>none
def zra(F:Option (Nat×SV)->SR)(w:Bool×Option (Nat×SV)):Bool×SR:=(w.1,F w.2)
theorem zaC{d:TypeDesc}{k:SV}{x:AV}{F:Option (Nat×SV)->SR}{q:SR}(hk:RV X k x):∀ {ks vs:List SV} {es:List (AV×AV)} {i:Nat} {ws:List (Bool×Option (Nat×SV))},RVs X ks (es.map (·.1))->RVs X vs (es.map (·.2))->zld d k ks vs i=some ws->Hit (ws.map (zra F)) q ->
  (q=F none/\kA d x es i=some none)\/∃ j v y,q=F (some (j,v))/\kA d x es i=some (some (j,y))/\RV X v y
 | [],vs,es,i,ws,h1,h2,h,hh=>by
  cases vs with
  |nil=>
   cases h
   rcases hh with⟨_,rfl⟩|⟨hf,_⟩
   ·refine .inl ⟨rfl,?_⟩
    have:es=[]:=by simpa using(show es.map (·.1)=[] from h1)
    subst this;rfl
   ·cases hf
  |cons v vs=>cases h
 |k'::ks,vs,es,i,ws,h1,h2,h,hh=>by
  cases vs with
  |nil=>cases h
  |cons v vs=>
   simp only[zld] at h
   split at h
   ·rename_i b r hb hr
    cases h
    obtain⟨x1,t1,e1,q1,q2⟩:=h1
    obtain⟨x2,t2,e2,q3,q4⟩:=h2
    cases es with
    |nil=>simp at e1
    |cons p es=>
     simp only[List.map_cons,List.cons.injEq] at e1 e2
     obtain⟨rfl,rfl⟩:=e1
     obtain⟨rfl,rfl⟩:=e2
     have hm:=zhl hk q1 hb
     rcases hh with⟨hb',rfl⟩|⟨hb',hh⟩
     ·refine .inr ⟨i,v,p.2,rfl,?_,q3⟩
      simp only[kA,hm]
      simp only[] at hb'
      rw[hb']
     ·rcases zaC hk q2 q4 hr hh with⟨e3,e4⟩|⟨j,v',y,e3,e4,e5⟩
      ·refine .inl ⟨e3,?_⟩
       simp only[kA,hm]
       simp only[] at hb'
       rw[hb'];exact e4
      ·refine .inr ⟨j,v',y,e3,?_,e5⟩
       simp only[kA,hm]
       simp only[] at hb'
       rw[hb'];exact e4
   ·cases h
def zeJ(v:SV)(h:SH):Option (List SV×List SV):=match v with
 |.a .zcd=>some ([],[])
 |.map loc=>match h[loc]? with
  |some (.map ks vs _)=>some (ks,vs)
  |_=>none
 |.zoW ks vs=>some (ks,vs)
 |_=>none
theorem zdu(hr:RH X){v:SV}{x:AV}{ks vs:List SV}(hv:RV X v x)(h:zeJ v X.sh=some (ks,vs)):∃ es,zM x X.h=some es/\RVs X ks (es.map (·.1))/\RVs X vs (es.map (·.2)):=by
 unfold zeJ at h
 split at h
 ·cases h;cases(show x=_ from hv);exact⟨[],rfl,rfl,rfl⟩
 ·split at h
  ·rename_i ks' vs' md hb
   cases h
   obtain⟨m,⟨ver,hσ⟩,rfl⟩:=hv
   obtain⟨m',es,e1,h1,h2,h3⟩:=hr.blk _ _ _ hb hσ
   cases e1
   exact⟨es,by simp only[zM,h1],h2,h3⟩
  ·cases h
 ·cases h
  obtain⟨m,es,rfl,_,h1,h2,h3⟩:=hv
  exact⟨es,by simp only[zM,h1],h2,h3⟩
 ·cases h
def zqW(ok:Bool)(z:SV)(h:SH):Option (Nat×SV)->SR
 |some (_,v)=>match ok with|true=>.val (.tup [v,.a (.bool true)]) h|false=>.val v h
 |none=>match ok with|true=>.val (.tup [z,.a (.bool false)]) h|false=>.val z h
def zeM(P:Program)(t:TypeId)(mv k:SV)(ok:Bool)(h:SH):zeY:=
 match P.underlying t with
 |some (.map kt et)=>match P.underlying kt,zdb P et,zeJ mv h with
  |some d,some z,some (ks,vs)=>match zh2 d k,zld d k ks vs 0 with
   |true,some ws=>ws.map (zra (zqW ok z h))
   |_,_=>[]
  |_,_,_=>[]
 |_=>[]
theorem zeo(hr:RH X)(he:EvR X e m){t:TypeId}{om ok':Operand}{ok:Bool}{mv k:SV}{q:SR}(hm:e om=some mv)(hk:e ok'=some k)(h:Hit (zeM P t mv k ok X.sh) q):∃ rs,mop P m X.h (.lookup t om ok' ok)=some rs/\SRR X q rs:=by
 obtain⟨xm,h1,h2⟩:=he _ _ hm
 obtain⟨xk,h3,h4⟩:=he _ _ hk
 suffices hs:∃ y v,q=.val v X.sh/\qN P t xm xk ok X.h=some y/\RV X v y by
  obtain⟨y,v,rfl,h5,h6⟩:=hs
  exact⟨_,by simp only[mop,h1,h3,h5,rv],.same hr h6⟩
 unfold zeM at h
 split at h
 ·rename_i kt et hu
  split at h
  ·rename_i d z ks vs hd hz hes
   split at h
   ·rename_i ws hko hw
    obtain⟨zx,h5,h6⟩:=qb (X:=X) hz
    obtain⟨es,h7,h8,h9⟩:=zdu hr h2 hes
    have hko:=zbX h4 hko
    rcases zaC h4 h8 h9 hw h with⟨rfl,h10⟩|⟨j,v,y,rfl,h10,h11⟩
    ·cases ok with
     |true=>exact⟨_,_,rfl,by simp only[qN,hu,hd,h5,h7,if_pos hko,h10];rfl,_,rfl,zx,_,rfl,h6,_,_,rfl,rfl,rfl⟩
     |false=>exact⟨_,_,rfl,by simp only[qN,hu,hd,h5,h7,if_pos hko,h10];rfl,h6⟩
    ·cases ok with
     |true=>exact⟨_,_,rfl,by simp only[qN,hu,hd,h5,h7,if_pos hko,h10];rfl,_,rfl,y,_,rfl,h11,_,_,rfl,rfl,rfl⟩
     |false=>exact⟨_,_,rfl,by simp only[qN,hu,hd,h5,h7,if_pos hko,h10];rfl,h11⟩
   ·cases h
  ·cases h
 ·cases h
def wy(u:U)(v:SV):Bool:=match v with
 |.agg _=>u.agg
 |_=>!u.agg
def unF:(u:U)->List SV->Option (El u×List SV)
 |.bool,.a (.bool b)::r=>some (b,r)
 |.int k,.a (.int k' n)::r=>match decide (k=k') with
  |true=>some (n,r)
  |false=>none
 |.u8,.u8 b::r=>some (b,r)
 |.str,.a (.str l)::r=>some (l,r)
 |.sl u,.isl u' l::r=>match qX u' u l with
  |some l=>some (l,r)
  |none=>none
 |.slc u,.ul u' l::r=>match qX u' u l with
  |some l=>some (l,r)
  |none=>none
 |.pair u v,vs=>match unF u vs with
  |some (x,r)=>match unF v r with
   |some (y,r')=>some ((x,y),r')
   |none=>none
  |none=>none
 |.unit,r=>some ((),r)
 |_,_=>none
theorem zlu:∀ (u:U) {vs r:List SV} {x:El u},unF u vs=some (x,r)->vs=enc u x++r
 |.bool,vs,r,x,h=>by
  match vs,h with
  |.a (.bool b)::r',h=>cases h;rfl
 |.int k,vs,r,x,h=>by
  match vs,h with
  |.a (.int k' n)::r',h=>
   simp only[unF] at h
   split at h
   ·rename_i hk
    have hk:=of_decide_eq_true hk
    subst hk
    cases h;rfl
   ·cases h
 |.u8,vs,r,x,h=>by
  match vs,h with
  |.u8 b::r',h=>cases h;rfl
 |.str,vs,r,x,h=>by
  match vs,h with
  |.a (.str l)::r',h=>cases h;rfl
 |.sl u,vs,r,x,h=>by
  match vs,h with
  |.isl u' l::r',h=>
   simp only[unF] at h
   split at h
   ·rename_i l2 hc
    obtain⟨e1,e2⟩:=zq hc
    subst e1;cases e2;cases h;rfl
   ·cases h
 |.slc u,vs,r,x,h=>by
  match vs,h with
  |.ul u' l::r',h=>
   simp only[unF] at h
   split at h
   ·rename_i l2 hc
    obtain⟨e1,e2⟩:=zq hc
    subst e1;cases e2;cases h;rfl
   ·cases h
 |.pair u v,vs,r,x,h=>by
  simp only[unF] at h
  split at h
  ·rename_i y r1 h1
   split at h
   ·rename_i z r2 h2
    cases h
    rw[zlu u h1,zlu v h2]
    exact(List.append_assoc _ _ _).symm
   ·cases h
  ·cases h
 |.unit,vs,r,x,h=>by cases h;rfl
def znE(u:U)(v:SV):Option (El u):=match wy u v,unF u v.cells with
 |true,some (x,[])=>some x
 |_,_=>none
theorem zcD{u:U}{v:SV}{x:El u}(h:znE u v=some x):zf8 u x=v:=by
 unfold znE at h
 split at h
 ·rename_i ha hu
  cases h
  have:=zlu u hu
  rw[List.append_nil] at this
  cases u with
  |pair a b=>
   cases v<;>first|(simp [wy,U.agg] at ha;done)|skip
   exact congrArg SV.agg this.symm
  |unit=>
   cases v<;>first|(simp [wy,U.agg] at ha;done)|skip
   exact congrArg SV.agg this.symm
  |bool=>cases v<;>first|(simp [wy,U.agg] at ha;done)|(simp [SV.cells,enc] at this<;>first|(subst this;rfl)|rfl)
  |int k=>cases v<;>first|(simp [wy,U.agg] at ha;done)|(simp [SV.cells,enc] at this<;>first|(subst this;rfl)|rfl)
  |u8=>cases v<;>first|(simp [wy,U.agg] at ha;done)|(simp [SV.cells,enc] at this<;>first|(subst this;rfl)|rfl)
  |str=>cases v<;>first|(simp [wy,U.agg] at ha;done)|(simp [SV.cells,enc] at this<;>first|(subst this;rfl)|rfl)
  |sl a=>cases v<;>first|(simp [wy,U.agg] at ha;done)|(simp [SV.cells,enc] at this<;>(obtain⟨rfl,this⟩:=this;cases this;rfl))
  |slc a=>cases v<;>first|(simp [wy,U.agg] at ha;done)|(simp [SV.cells,enc] at this<;>(obtain⟨rfl,this⟩:=this;cases this;rfl))
 ·cases h
def zm9(d:TypeDesc)(u:U):Bool:=match d,u with
 |.int .u8,.u8=>true
 |.int k,.int k'=>k'==k
 |.string,.str=>true
 |.bool,.bool=>true
 |_,_=>false
def ziT:(u:U)->El u->El u->Bool
 |.bool,(a:Bool),b=>a==b
 |.int _,(a:Int),b=>a==b
 |.u8,(a:UInt8),b=>a==b
 |.str,(a:List UInt8),b=>a==b
 |_,_,_=>false
def zaR(u v:U):List (El u×El v)->El u->Option (El v)
 | [],_=>none
 |p::l,k=>cond (ziT u k p.1) (some p.2) (zaR u v l k)
def zgH(u v:U):List (El u×El v)->El u->El v->List (El u×El v)
 | [],k,x=>[(k,x)]
 |p::l,k,x=>cond (ziT u k p.1) ((k,x)::l) (p::zgH u v l k x)
def zgG(u v:U):List (El u×El v)->El u->List (El u×El v)
 | [],_=>[]
 |p::l,k=>cond (ziT u k p.1) l (p::zgG u v l k)
theorem zek{d:TypeDesc}{u:U}{k:El u}{x:AV}(h:zm9 d u=true)(q:RV X (zf8 u k) x):zfj d x=true:=by
 unfold zm9 at h
 split at h
 ·cases(show x=_ from q);rfl
 ·cases(show x=_ from q);exact h
 ·cases(show x=_ from q);rfl
 ·cases(show x=_ from q);rfl
 ·cases h
theorem zma{d:TypeDesc}{u:U}{k k':El u}{x y:AV}(h:zm9 d u=true)(h1:RV X (zf8 u k) x)(h2:RV X (zf8 u k') y):zfD d x y=some (ziT u k k'):=by
 unfold zm9 at h
 split at h
 ·cases(show x=_ from h1);cases(show y=_ from h2);simp only[zfD,if_true,u8c];rfl
 ·cases(show x=_ from h1);cases(show y=_ from h2);simp only[zfD,if_true];rfl
 ·cases(show x=_ from h1);cases(show y=_ from h2);rfl
 ·cases(show x=_ from h1);cases(show y=_ from h2);rfl
 ·cases h
theorem zcq{d:TypeDesc}{u v:U}{k:El u}{x:AV}(hd:zm9 d u=true)(hk:RV X (zf8 u k) x)(w:El v):∀ (l:List (El u×El v)) (es:List (AV×AV)) (i:Nat),RVs X (kvK u v l) (es.map (·.1))->RVs X (kvV u v l) (es.map (·.2)) ->
  (zaR u v l k=none/\kA d x es i=some none/\zgH u v l k w=l++[(k,w)]/\zgG u v l k=l) \/
  ∃ j z y,zaR u v l k=some z/\kA d x es i=some (some (i+j,y))/\RV X (zf8 v z) y/\zgH u v l k w=l.set j (k,w)/\zgG u v l k=l.eraseIdx j
 | [],es,i,h1,h2=>by
  have:es=[]:=by simpa using(show es.map (·.1)=[] from h1)
  subst this
  exact .inl ⟨rfl,rfl,rfl,rfl⟩
 |p::l,es,i,h1,h2=>by
  obtain⟨x1,t1,e1,q1,q2⟩:=h1
  obtain⟨x2,t2,e2,q3,q4⟩:=h2
  cases es with
  |nil=>simp at e1
  |cons e es=>
   simp only[List.map_cons,List.cons.injEq] at e1 e2
   obtain⟨rfl,rfl⟩:=e1
   obtain⟨rfl,rfl⟩:=e2
   have hm:=zma hd hk q1
   cases hs:ziT u k p.1 with
   |true=>
    rw[hs] at hm
    refine .inr ⟨0,p.2,e.2,?_,?_,q3,?_,?_⟩
    ·simp only[zaR,hs,cond_true]
    ·simp only[kA,hm];rfl
    ·simp only[zgH,hs,cond_true,List.set_cons_zero]
    ·simp only[zgG,hs,cond_true,List.eraseIdx_cons_zero]
   |false=>
    rw[hs] at hm
    rcases zcq hd hk w l es (i+1) q2 q4 with⟨a1,a2,a3,a4⟩|⟨j,z,y,a1,a2,a3,a4,a5⟩
    ·refine .inl ⟨?_,?_,?_,?_⟩
     ·simp only[zaR,hs,cond_false,a1]
     ·simp only[kA,hm,a2]
     ·simp only[zgH,hs,cond_false,a3,List.cons_append]
     ·simp only[zgG,hs,cond_false,a4]
    ·refine .inr ⟨j+1,z,y,?_,?_,a3,?_,?_⟩
     ·simp only[zaR,hs,cond_false,a1]
     ·simp only[kA,hm,a2,show i+1+j=i+(j+1) by omega]
     ·simp only[zgH,hs,cond_false,a4,List.set_cons_succ]
     ·simp only[zgG,hs,cond_false,a5,List.eraseIdx_cons_succ]
theorem zeT(hr:RH X){loc:Nat}{u v:U}{l l':List (El u×El v)}{es':List (AV×AV)}{mm:Nat}(hb:X.sh[loc]?=some (.kv u v l 0))(hσ:X.σ[loc]?=some (some (mm,0)))(h1:RVs X (kvK u v l') (es'.map (·.1)))(h2:RVs X (kvV u v l') (es'.map (·.2))):
  ∃ Y,Stp X Y/\Y.sh=X.sh.set loc (.kv u v l' 0)/\Y.h=X.h.set mm (.map es'):=by
 have hlt:=hr.lt _ _ _ hσ
 refine⟨⟨X.h.set mm (.map es'),X.Φ,X.σ,X.sh.set loc (.kv u v l' 0)⟩,?_,rfl,rfl⟩
 refine Stp.turn hr hb hσ (by simp) (fun m' hm' hne=>Arr.zk fun e=>hne 0 (e ▸ rfl)) (fun _ _ _=>.inr rfl) (by show _<=(X.h.set _ _).length;rw[Arr.length_set];exact Nat.le_refl _)
  (fun m=>⟨.inl,fun h=>h.elim id fun h=>by cases h.1⟩) (z7 hσ).symm rfl (fun m' v' e=>by cases e;exact⟨by show _<(X.h.set _ _).length;rw[Arr.length_set];exact hlt,.inl ⟨_,rfl⟩⟩) (fun m v e=>⟨v,e⟩) (fun _ _ _ _ e=>by cases e)
  (fun h=>h) (fun h=>h.elim (fun h=>by cases h) fun h=>by cases h) fun hle'=>?_
 exact⟨mm,es',rfl,Arr.zj hlt,h1.le hle',h2.le hle'⟩
def zem(P:Program)(t:TypeId)(u v:U)(l:List (El u×El v))(k:SV)(ok:Bool):Option SV:=match P.underlying t with
 |some (.map kt et)=>match P.underlying kt,zdb P et,znE u k with
  |some d,some z,some k=>match zm9 d u,znE v z with
   |true,some z=>match ok with
    |true=>some (.tup [zf8 v ((zaR u v l k).getD z),.a (.bool (zaR u v l k).isSome)])
    |false=>some (zf8 v ((zaR u v l k).getD z))
   |_,_=>none
  |_,_,_=>none
 |_=>none
def zpo(mv:SV)(h:SH):Option SB:=match mv with
 |.map loc=>match h[loc]? with
  |some (.kv u v l md)=>some (.kv u v l md)
  |_=>none
 |_=>none
theorem zgD{mv:SV}{h:SH}{b:SB}(e:zpo mv h=some b):∃ loc,mv=.map loc/\h[loc]?=some b:=by
 unfold zpo at e
 split at e
 ·split at e
  ·rename_i h1;cases e;exact⟨_,rfl,h1⟩
  ·cases e
 ·cases e
theorem zdn(hr:RH X){t:TypeId}{u v:U}{l:List (El u×El v)}{k r:SV}{xk:AV}{ok:Bool}{loc md:Nat}{xm:AV}(hb:X.sh[loc]?=some (.kv u v l md))(hm:RV X (.map loc) xm)(hk:RV X k xk)(h:zem P t u v l k ok=some r):∃ y,qN P t xm xk ok X.h=some y/\RV X r y:=by
 obtain⟨m,⟨ver,hσ⟩,rfl⟩:=hm
 obtain⟨m',es,e1,h1,h2,h3⟩:=hr.blk _ _ _ hb hσ
 cases e1
 unfold zem at h
 split at h
 ·rename_i kt et hu
  split at h
  ·rename_i d z k' hd hz hk'
   split at h
   ·rename_i z' hko hz'
    have hk2:=zcD hk'
    have hz2:=zcD hz'
    subst hk2
    obtain⟨zx,h5,h6⟩:=qb (X:=X) hz
    rw[<- hz2] at h6
    have hkk:=zek hko hk
    have he:zM (.map m) X.h=some es:=by simp only[zM,h1]
    rcases zcq hko hk z' l es 0 h2 h3 with⟨a1,a2,_⟩|⟨j,w,y,a1,a2,a3,_⟩
    ·split at h
     ·cases h
      exact⟨.tup [zx,.bool false],by simp only[qN,hu,hd,h5,he,if_pos hkk,a2];rfl,_,rfl,zx,_,rfl,by rw[a1];exact h6,_,_,rfl,by rw[a1];rfl,rfl⟩
     ·cases h
      exact⟨_,by simp only[qN,hu,hd,h5,he,if_pos hkk,a2];rfl,by rw[a1];exact h6⟩
    ·split at h
     ·cases h
      exact⟨.tup [y,.bool true],by simp only[qN,hu,hd,h5,he,if_pos hkk,a2];rfl,_,rfl,y,_,rfl,by rw[a1];exact a3,_,_,rfl,by rw[a1];rfl,rfl⟩
     ·cases h
      exact⟨_,by simp only[qN,hu,hd,h5,he,if_pos hkk,a2];rfl,by rw[a1];exact a3⟩
   ·cases h
  ·cases h
 ·cases h
def zgI(P:Program)(t:TypeId)(loc:Nat)(b:SB)(k v:SV)(h:SH):Option SH:=match b with
 |.kv uk uv l 0=>match P.underlying t with
  |some (.map kt _)=>match P.underlying kt,znE uk k,znE uv v with
   |some d,some k,some x=>match zm9 d uk with
    |true=>some (h.set loc (.kv uk uv (zgH uk uv l k x) 0))
    |false=>none
   |_,_,_=>none
  |_=>none
 |_=>none
theorem zen(hr:RH X){t:TypeId}{b:SB}{k v:SV}{xm xk xv:AV}{loc:Nat}{h':SH}(hb:X.sh[loc]?=some b)(hm:RV X (.map loc) xm)(hk:RV X k xk)(hv:RV X v xv)(h:zgI P t loc b k v X.sh=some h'):∃ mh,zlE P t xm xk xv X.h=some mh/\∃ Y,Stp X Y/\Y.sh=h'/\Y.h=mh:=by
 unfold zgI at h
 split at h
 ·rename_i uk uv l
  obtain⟨m,⟨ver,hσ⟩,rfl⟩:=hm
  obtain⟨m',es,e1,h1,h2,h3⟩:=hr.blk _ _ _ hb hσ
  cases e1
  split at h
  ·rename_i kt et hu
   split at h
   ·rename_i d k' x' hd hk' hx'
    split at h
    ·rename_i hko
     cases h
     have e1:=zcD hk'
     have e2:=zcD hx'
     subst e1;subst e2
     have hkk:=zek hko hk
     rcases zcq hko hk x' l es 0 h2 h3 with⟨a1,a2,a3,_⟩|⟨j,w,y,a1,a2,a3,a4,_⟩
     ·obtain⟨Y,q1,q2,q3⟩:=zeT (l':=l++[(k',x')]) (es':=es++[(xk,xv)]) hr hb hσ (by simp only[kvK,List.map_append] at h2 |-;exact h2.append (.one hk)) (by simp only[kvV,List.map_append] at h3 |-;exact h3.append (.one hv))
      exact⟨_,by simp only[zlE,hu,hd,h1,if_pos hkk,a2],Y,q1,by rw[q2,a3],q3⟩
     ·obtain⟨Y,q1,q2,q3⟩:=zeT (l':=l.set j (k',x')) (es':=es.set j (xk,xv)) hr hb hσ (by simp only[kvK,List.map_set] at h2 |-;exact h2.set j hk) (by simp only[kvV,List.map_set] at h3 |-;exact h3.set j hv)
      exact⟨_,by simp only[zlE,hu,hd,h1,if_pos hkk,a2,Nat.zero_add],Y,q1,by rw[q2,a4],q3⟩
    ·cases h
   ·cases h
  ·cases h
 ·cases h
theorem RVs.eraseIdx{l:List SV}{xs:List AV}(q:RVs X l xs)(i:Nat):RVs X (l.eraseIdx i) (xs.eraseIdx i):=by
 induction l generalizing xs i with
 |nil=>cases q;exact rfl
 |cons v l ih=>obtain⟨x,t,rfl,h1,h2⟩:=q;cases i with
  |zero=>exact h2
  |succ i=>exact⟨x,t.eraseIdx i,rfl,h1,ih h2 i⟩
def zel(P:Program)(t:TypeId)(m k:SV)(h:SH):Option SH:=match m,zpo m h with
 |.map loc,some (.kv uk uv l 0)=>match P.underlying t with
  |some (.map kt _)=>match P.underlying kt,znE uk k with
   |some d,some k=>match zm9 d uk with
    |true=>some (h.set loc (.kv uk uv (zgG uk uv l k) 0))
    |false=>none
   |_,_=>none
  |_=>none
 |_,_=>none
theorem map_eraseIdx{α β:Type}(f:α->β):∀ (l:List α) (i:Nat),(l.eraseIdx i).map f=(l.map f).eraseIdx i
 | [],_=>rfl
 |_::_,0=>rfl
 |a::l,i+1=>by simp [map_eraseIdx f l i]
theorem zdm(hr:RH X){t:TypeId}{m k:SV}{xm xk:AV}{h':SH}(hm:RV X m xm)(hk:RV X k xk)(h:zel P t m k X.sh=some h'):∃ mh,zbp P t xm xk X.h=some mh/\∃ Y,Stp X Y/\Y.sh=h'/\Y.h=mh:=by
 unfold zel at h
 split at h
 ·rename_i loc uk uv l hkv
  obtain⟨loc',e0,hb⟩:=zgD hkv
  cases e0
  obtain⟨m,⟨ver,hσ⟩,rfl⟩:=hm
  obtain⟨m',es,e1,h1,h2,h3⟩:=hr.blk _ _ _ hb hσ
  cases e1
  split at h
  ·rename_i kt et hu
   split at h
   ·rename_i d k' hd hk'
    split at h
    ·rename_i hko
     cases h
     have e1:=zcD hk'
     subst e1
     have hkk:=zek hko hk
     rcases zcq hko hk (w:=uv.zero) l es 0 h2 h3 with⟨a1,a2,_,a3⟩|⟨j,w,y,a1,a2,a3,_,a4⟩
     ·obtain⟨Y,q1,q2,q3⟩:=zeT (l':=l) (es':=es) hr hb hσ h2 h3
      exact⟨_,by simp only[zbp,hu,hd,h1,if_pos hkk,a2],Y,q1,by rw[q2,a3],q3⟩
     ·obtain⟨Y,q1,q2,q3⟩:=zeT (l':=l.eraseIdx j) (es':=es.eraseIdx j) hr hb hσ (by simp only[kvK,map_eraseIdx] at h2 |-;exact h2.eraseIdx j) (by simp only[kvV,map_eraseIdx] at h3 |-;exact h3.eraseIdx j)
      exact⟨_,by simp only[zbp,hu,hd,h1,if_pos hkk,a2,Nat.zero_add],Y,q1,by rw[q2,a4],q3⟩
    ·cases h
   ·cases h
  ·cases h
 ·cases h
def zpI(loc:Nat)(ks vs:List SV)(k v:SV)(h:SH):Option (Nat×SV)->SR
 |some (i,_)=>.unit (h.set loc (.map (ks.set i k) (vs.set i v) 0))
 |none=>.unit (h.set loc (.map (ks++[k]) (vs++[v]) 0))
def zoM(P:Program)(t:TypeId)(mv k v:SV)(h:SH):zeY:=
 match P.underlying t,mv with
 |some (.map kt _),.map loc=>match P.underlying kt,h[loc]? with
  |some d,some (.map ks vs 0)=>match zh2 d k,zld d k ks vs 0 with
   |true,some ws=>ws.map (zra (zpI loc ks vs k v h))
   |_,_=>[]
  |_,_=>[]
 |_,_=>[]
theorem zh6(hr:RH X){loc:Nat}{ks vs ks' vs':List SV}{es':List (AV×AV)}{mm:Nat}(hb:X.sh[loc]?=some (.map ks vs 0))(hσ:X.σ[loc]?=some (some (mm,0)))(h1:RVs X ks' (es'.map (·.1)))(h2:RVs X vs' (es'.map (·.2))):
  ∃ Y,Stp X Y/\Y.sh=X.sh.set loc (.map ks' vs' 0)/\Y.h=X.h.set mm (.map es'):=by
 have hlt:=hr.lt _ _ _ hσ
 refine⟨⟨X.h.set mm (.map es'),X.Φ,X.σ,X.sh.set loc (.map ks' vs' 0)⟩,?_,rfl,rfl⟩
 refine Stp.turn hr hb hσ (by simp) (fun m' hm' hne=>Arr.zk fun e=>hne 0 (e ▸ rfl)) (fun _ _ _=>.inr rfl) (by show _<=(X.h.set _ _).length;rw[Arr.length_set];exact Nat.le_refl _)
  (fun m=>⟨.inl,fun h=>h.elim id fun h=>by cases h.1⟩) (z7 hσ).symm rfl (fun m' v' e=>by cases e;exact⟨by show _<(X.h.set _ _).length;rw[Arr.length_set];exact hlt,.inl ⟨_,rfl⟩⟩) (fun m v e=>⟨v,e⟩) (fun _ _ _ _ e=>by cases e)
  (fun h=>h) (fun h=>h.elim (fun h=>by cases h) fun h=>by cases h) fun hle'=>?_
 exact⟨mm,es',rfl,Arr.zj hlt,h1.le hle',h2.le hle'⟩
theorem zhk(hr:RH X){t:TypeId}{mv k v:SV}{xm xk xv:AV}{q:SR}(h2:RV X mv xm)(h4:RV X k xk)(h6:RV X v xv)(h:Hit (zoM P t mv k v X.sh) q):∃ h' sh',zlE P t xm xk xv X.h=some h'/\q=.unit sh'/\∃ Y,Stp X Y/\Y.sh=sh'/\Y.h=h':=by
 unfold zoM at h
 split at h
 ·rename_i kt et loc hu
  split at h
  ·rename_i d ks vs hd hb
   split at h
   ·rename_i ws hko hw
    obtain⟨mm,⟨ver,hσ⟩,rfl⟩:=h2
    obtain⟨m',es,e1,h7,h8,h9⟩:=hr.blk _ _ _ hb hσ
    cases e1
    have hko:=zbX h4 hko
    rcases zaC h4 h8 h9 hw h with⟨rfl,h10⟩|⟨j,v',y,rfl,h10,h11⟩
    ·obtain⟨Y,h12,h13,h14⟩:=zh6 (es':=es++[(xk,xv)]) hr hb hσ (ks':=ks++[k]) (vs':=vs++[v]) (by rw[List.map_append];exact h8.append (.one h4)) (by rw[List.map_append];exact h9.append (.one h6))
     exact⟨_,_,by simp only[zlE,hu,hd,h7,if_pos hko,h10],rfl,Y,h12,h13,h14⟩
    ·obtain⟨Y,h12,h13,h14⟩:=zh6 (es':=es.set j (xk,xv)) hr hb hσ (ks':=ks.set j k) (vs':=vs.set j v) (by rw[List.map_set];exact h8.set j h4) (by rw[List.map_set];exact h9.set j h6)
     exact⟨_,_,by simp only[zlE,hu,hd,h7,if_pos hko,h10],rfl,Y,h12,h13,h14⟩
   ·cases h
  ·cases h
 ·cases h
def zhi(P:Program)(t:TypeId)(mv k:SV)(ok:Bool)(h:SH):zeY:=match zpo mv h with
 |some (.kv u v l _)=>zgU h (zem P t u v l k ok)
 |_=>zeM P t mv k ok h
theorem zfo(hr:RH X)(he:EvR X e m){t:TypeId}{om ok':Operand}{ok:Bool}{mv k:SV}{q:SR}(hm:e om=some mv)(hk:e ok'=some k)(h:Hit (zhi P t mv k ok X.sh) q):∃ rs,mop P m X.h (.lookup t om ok' ok)=some rs/\SRR X q rs:=by
 unfold zhi at h
 split at h
 ·rename_i u v l md hkv
  obtain⟨loc,rfl,hb⟩:=zgD hkv
  obtain⟨r,h1,rfl⟩:=zal h
  obtain⟨xm,h2,h3⟩:=he _ _ hm
  obtain⟨xk,h4,h5⟩:=he _ _ hk
  obtain⟨y,h6,h7⟩:=zdn hr hb h3 h5 h1
  exact⟨_,by simp only[mop,h2,h4,h6,rv],.same hr h7⟩
 ·exact zeo hr he hm hk h
def zqB(P:Program)(t:TypeId)(mv k v:SV)(h:SH):zeY:=match mv,zpo mv h with
 |.map loc,some b=>match zgI P t loc b k v h with
  |some h'=>[(true,.unit h')]
  |none=>[]
 |_,_=>zoM P t mv k v h
theorem zdV(hr:RH X){t:TypeId}{mv k v:SV}{xm xk xv:AV}{q:SR}(h2:RV X mv xm)(h4:RV X k xk)(h6:RV X v xv)(h:Hit (zqB P t mv k v X.sh) q):∃ h' sh',zlE P t xm xk xv X.h=some h'/\q=.unit sh'/\∃ Y,Stp X Y/\Y.sh=sh'/\Y.h=h':=by
 unfold zqB at h
 split at h
 ·rename_i loc b hkv
  obtain⟨loc',e0,hb⟩:=zgD hkv
  cases e0
  split at h
  ·rename_i h' hs
   rcases h with⟨_,rfl⟩|h
   ·obtain⟨mh,q1,Y,q2,q3,q4⟩:=zen hr hb h2 h4 h6 hs
    exact⟨mh,h',q1,rfl,Y,q2,q3,q4⟩
   ·exact absurd h.2 id
  ·cases h
 ·exact zhk hr h2 h4 h6 h
end
end Go.Sx
namespace Go.Sx
open Go Go.Gx Go.Mx
variable [qE]
def U.wQ:U->List AV
 |.bool=>[.bool false]
 |.int k=>[.int k 0]
 |.u8=>[.int .u8 0]
 |.str=>[.str []]
 |.sl _=>[.qj]
 |.slc _=>[.qj]
 |.pair a b=>a.wQ++b.wQ
 |.unit=>[]
theorem RE.zero{h:za}{Φ:Nat->Prop}:∀ {u:U},RE h Φ u u.zero u.wQ
 |.bool=>rfl
 |.int _=>rfl
 |.u8=>rfl
 |.str=>rfl
 |.sl _=>⟨_,rfl,.inl ⟨rfl,rfl⟩⟩
 |.slc _=>⟨_,rfl,false,.inl ⟨rfl,rfl⟩⟩
 |.pair _ _=>⟨_,_,rfl,RE.zero,RE.zero⟩
 |.unit=>rfl
theorem j3{u:U}:u.wQ.length=u.sz:=(RE.zero (h:=Arr.nil) (Φ:=fun _=>False) (u:=u)).length
def znO(P:Program)(e:TypeId)(u:U):Bool:=match P.info? e with
 |some i=>match i.zero with
  |some z=>match ofConst z with
   |some x=>Nat.beq i.size u.sz&&Nat.ble i.bytes 256&&Nat.blt 0 i.size&&Nat.beq z.cells.size i.size&&AV.zgg x.cells u.wQ
   |none=>false
  |none=>false
 |none=>false
structure zrc(P:Program)(e:TypeId)(u:U)(i:TypeInfo)(z:Value)(x:AV):Prop where
 info:P.info? e=some i
 zero:i.zero=some z
 zo:zeroOf P e=some x
 size:i.size=u.sz
 bytes:i.bytes<=256
 pos:0<u.sz
 zc:z.cells.size=i.size
 xc:x.cells=u.wQ
 sz:wI P e=some u.sz
theorem jZ{P:Program}{e:TypeId}{u:U}(h:znO P e u=true):∃ i z x,zrc P e u i z x:=by
 unfold znO at h
 split at h
 ·rename_i i hi
  split at h
  ·rename_i z hz
   split at h
   ·rename_i x hx
    simp only[Bool.and_eq_true] at h
    obtain⟨⟨⟨⟨h1,h2⟩,h3⟩,h4⟩,h5⟩:=h
    have h1:=zb h1
    exact⟨i,z,x,hi,hz,by simp only[zeroOf,hi,hz,hx],h1,Nat.le_of_ble_eq_true h2,by have:=qg h3;omega,zb h4,AV.km _ _ h5,by simp only[wI,hi,h1]⟩
   ·cases h
  ·cases h
 ·cases h
section
variable {P:Program} {gl:GL} {X:Gst} {e:Operand->Option SV} {m:Operand->Option AV}
def zoe(P:Program)(t:TypeId):Option TypeId:=match P.underlying t with
 |some (.struct fs)=>match fs.toList with
  |f::_=>match P.underlying f.type with
   |some (.pointer u)=>match Nat.beq u t with
    |true=>some t
    |false=>none
   |_=>none
  | []=>none
 |_=>none
theorem zkd(P:Program)(t:TypeId):(zoe P t).or (some t)=some t:=by
 unfold zoe
 repeat' split
 all_goals rfl
theorem zdP(hr:RH X){l:List SV}{l':List AV}{tt:Option TypeId}(mk:Option TypeId:=none)(hk:mk.or tt=tt:=by rfl)(hc:RVs X l l'):∃ Y,Stp X Y/\Y.sh=X.sh++[.cells l 0 mk]/\Y.h=X.h++[Blk.row l' 0 0 0 false tt]/\Y.at X.sh.length X.h.length:=by
 refine⟨_,Stp.push hr (b:=.cells l 0 mk) (blk:=.row l' 0 0 0 false tt) (by simp [SB.md]) (fun hle=>⟨X.h.length,l',tt,rfl,?_,hc.le hle⟩),rfl,rfl,0,?_⟩
 ·show(X.h++[_])[X.h.length]?=_
  rw[hk,Arr.zt (Nat.le_refl _),Nat.sub_self];rfl
 ·show(X.σ++[_])[X.sh.length]?=_
  rw[<- hr.len,List.getElem?_append_right (Nat.le_refl _),Nat.sub_self];rfl
def znk(mk:Option TypeId)(v:SV)(h:SH):Option (SV×SH):=match v.whole with
 |true=>some (.ptr h.length 0 v.cells.length,h++[.cells v.cells 0 mk])
 |false=>none
theorem zdR(hr:RH X){v w:SV}{x:AV}{sh':SH}(t:TypeId){mk:Option TypeId}(hk:mk.or (some t)=some t)(hv:RV X v x)(h:znk mk v X.sh=some (w,sh')):∃ Y,Stp X Y/\Y.sh=sh'/\Y.h=w9 X.h x.cells t/\RV Y w (.ptr X.h.length 0 0 x.cells.length):=by
 unfold znk at h
 split at h
 ·rename_i hw
  cases h
  have hc:=hv.zdf hw
  obtain⟨Y,h1,h2,h3,h4⟩:=zdP hr (tt:=some t) mk hk hc
  exact⟨Y,h1,h2,h3,X.h.length,h4,by rw[hc.length]⟩
 ·cases h
def zhy(P:Program)(t:TypeId)(h:SH):Option (SV×SH):=match P.underlying t with
 |some (.array n e)=>match uOf P 6 e,zeroOf P t with
  |some u,some z=>match(match u with|.u8=>true|.int _=>true|_=>false)&&Nat.ble 8 n&&AV.zgg z.cells (zY u.wQ (n*u.sz)) with
   |true=>some (.zh7 h.length 0 n,h++[.seq u (List.replicate n u.zero) 0 0])
   |false=>none
  |_,_=>none
 |_=>none
def zkM(P:Program)(t:TypeId)(h:SH):Option (Bool×SV×SH):=match zhy P t h with
 |some (v,h')=>some (true,v,h')
 |none=>match zdb P t with
  |some z=>match znk (zoe P t) z h with
   |some (v,h')=>some (true,v,h')
   |none=>none
  |none=>none
theorem zjs(hr:RH X)(he:EvR X e m){t:TypeId}{o:Operand}{a v:SV}{sh':SH}(ho:e o=some a)(h:znk none a X.sh=some (v,sh')):∃ rs,mop P m X.h (.box t o)=some rs/\SRR X (.val v sh') rs:=by
 obtain⟨p,h1,h2⟩:=he _ _ ho
 obtain⟨Y,h5,h6,h7,h8⟩:=zdR hr t rfl h2 h
 exact⟨.val _ _,by simp only[mop,h1],Y,h5,h6,h7,h8⟩
theorem zeq(hr:RH X){t:TypeId}:∃ rs,mop P m X.h (.makeMap t none)=some rs/\SRR X (.val (.map X.sh.length) (X.sh++[.map [] [] 0])) rs:=by
 refine⟨.val (.map X.h.length) (X.h++[Blk.map []]),rfl,_,Stp.push hr (b:=.map [] [] 0) (blk:=.map []) (by simp [SB.md]) (fun hle=>⟨X.h.length,[],rfl,?_,rfl,rfl⟩),rfl,rfl,X.h.length,⟨0,?_⟩,rfl⟩
 ·show(X.h++[_])[X.h.length]?=_
  rw[Arr.zt (Nat.le_refl _),Nat.sub_self];rfl
 ·show(X.σ++[_])[X.sh.length]?=_
  rw[<- hr.len,List.getElem?_append_right (Nat.le_refl _),Nat.sub_self];rfl
theorem zh5(hr:RH X){loc:Nat}{b b':SB}{mm:Nat}{blk:Blk}(hb:X.sh[loc]?=some b)(hσ:X.σ[loc]?=some (some (mm,0)))(h0:b.md=0)(hng:b≠.gone)(hns:∀ u l k md,b'≠.seq u l k md)(hm2:b'.md≠2)
  (hB:X.le ⟨X.h.set mm blk,X.Φ,X.σ,X.sh.set loc b'⟩->RB ⟨X.h.set mm blk,X.Φ,X.σ,X.sh.set loc b'⟩ b' (some (mm,0))):Stp X ⟨X.h.set mm blk,X.Φ,X.σ,X.sh.set loc b'⟩:=by
 have hlt:=hr.lt _ _ _ hσ
 exact Stp.turn hr hb hσ hng (fun m' hm' hne=>Arr.zk fun e=>hne 0 (e ▸ rfl)) (fun _ _ _=>.inr h0) (by show _<=(X.h.set _ _).length;rw[Arr.length_set];exact Nat.le_refl _)
  (fun m=>⟨.inl,fun h=>h.elim id fun h=>absurd h.1 hm2⟩) (z7 hσ).symm rfl (fun m' v' e=>by cases e;exact⟨by show _<(X.h.set _ _).length;rw[Arr.length_set];exact hlt,.inl ⟨_,rfl⟩⟩) (fun m v e=>⟨v,e⟩) (fun _ _ _ _ e=>absurd e (hns _ _ _ _))
  (fun h=>absurd h0 h) (fun h=>h.elim (fun h=>by omega) fun h=>absurd h hng) hB
def zk5(P:Program)(t:TypeId)(v:SV)(h:SH):Option (SV×SH):=match P.underlying t,v with
 |some (.map _ _),.map loc=>match h[loc]? with
  |some (.map [k] [w] 0)=>some (.ptr h.length 0 0,(h++[SB.mit loc false 0]).set loc (.zbm k w h.length 0))
  |_=>none
 |_,_=>none
def zl3(v:SV)(h:SH):Option (Nat×Nat×Bool×SV×SV):=match v with
 |.ptr it 0 0=>match h[it]? with
  |some (.mit l s 0)=>match h[l]? with
   |some (.zbm k w it' 0)=>match Nat.beq it' it with
    |true=>some (it,l,s,k,w)
    |false=>none
   |_=>none
  |_=>none
 |_=>none
def zoI(v:SV)(h:SH):Option (SV×SH):=match zl3 v h with
 |some (it,l,false,k,w)=>some (.tup [.a (.bool true),k,w],h.set it (.mit l true 0))
 |some (it,l,true,k,w)=>some (.tup [.a (.bool false)],(h.set l (.map [k] [w] 0)).set it .gone)
 |none=>none
def zkQ(v:SV)(h:SH):Option SV:=match zl3 v h with
 |some (_,_,true,k,w)=>some (.tup [k,w])
 |_=>none
theorem zbs(hr:RH X){v:SV}{x:AV}{it l:Nat}{s:Bool}{k w:SV}(hv:RV X v x)(h:zl3 v X.sh=some (it,l,s,k,w)):
  ∃ mi ml k' w',x=.ptr mi 0 0 0/\X.sh[it]?=some (.mit l s 0)/\X.sh[l]?=some (.zbm k w it 0)/\X.σ[it]?=some (some (mi,0))/\X.σ[l]?=some (some (ml,0))/\X.h[mi]?=some (.mit ml s)/\X.h[ml]?=some (.zbm k' w' mi)/\RV X k k'/\RV X w w':=by
 unfold zl3 at h
 split at h
 ·rename_i it
  split at h
  ·rename_i l s hb
   split at h
   ·rename_i k w it' hb2
    split at h
    ·rename_i hi
     cases h
     obtain rfl:=Nat.eq_of_beq_eq_true hi
     obtain⟨m,⟨v0,hat⟩,rfl⟩:=hv
     obtain⟨mi,ml,e1,⟨v1,h1⟩,h2⟩:=hr.blk _ _ _ hb hat
     cases e1
     obtain⟨ml',k',w',mi',e2,⟨v2,h3⟩,h4,h5,h6⟩:=hr.blk _ _ _ hb2 h1
     cases e2
     rw[hat] at h3;cases h3
     exact⟨_,_,_,_,rfl,hb,hb2,hat,h1,h2,h4,h5,h6⟩
    ·cases h
   ·cases h
  ·cases h
 ·cases h
theorem zgX(hr:RH X)(he:EvR X e m){t:TypeId}{x:Operand}{v w:SV}{sh':SH}(ho:e x=some v)(h:zk5 P t v X.sh=some (w,sh')):∃ rs,mop P m X.h (.range t x)=some rs/\SRR X (.val w sh') rs:=by
 obtain⟨xm,h1,h2⟩:=he _ _ ho
 unfold zk5 at h
 split at h
 ·rename_i kt et loc hu
  split at h
  ·rename_i k w hb
   cases h
   obtain⟨mm,⟨v0,hat⟩,rfl⟩:=h2
   obtain⟨m0,es,e1,h3,h4,h5⟩:=hr.blk _ _ _ hb hat
   cases e1
   obtain⟨p,rfl⟩:∃ p,es=[p]:=by
    have:=h4.length
    simp at this
    exact List.length_eq_one_iff.1 this
   obtain⟨k',w'⟩:=p
   obtain⟨_,_,q1,hk,_⟩:=h4
   obtain⟨_,_,q2,hw,_⟩:=h5
   cases q1;cases q2
   have hll:loc<X.sh.length:=(List.getElem?_eq_some_iff.1 hb).1
   have hlm:=hr.lt _ _ _ hat
   have S1:=Stp.push hr (b:=SB.mit loc false 0) (blk:=Blk.mit mm false) (by simp [SB.md]) (fun hle=>⟨X.h.length,mm,rfl,⟨0,by show(X.σ++[_])[loc]?=_;rw[List.getElem?_append_left (by rw[hr.len];exact hll)];exact hat⟩,by
    show(X.h++[_])[X.h.length]?=_
    rw[Arr.zt (Nat.le_refl _),Nat.sub_self];rfl⟩)
   have S2:=zh5 S1.hr (b:=.map [k] [w] 0) (b':=.zbm k w X.sh.length 0) (blk:=.zbm k' w' X.h.length) (loc:=loc) (mm:=mm) (by show(X.sh++[_])[loc]?=_;rw[List.getElem?_append_left hll];exact hb)
    (by show(X.σ++[_])[loc]?=_;rw[List.getElem?_append_left (by rw[hr.len];exact hll)];exact hat) rfl (by simp) (by simp) (by simp [SB.md]) (fun hle=>⟨mm,k',w',X.h.length,rfl,⟨0,by
     show(X.σ++[_])[X.sh.length]?=_
     rw[<- hr.len,List.getElem?_append_right (Nat.le_refl _),Nat.sub_self];rfl⟩,Arr.zj (by rw[Arr.zv];exact Nat.lt_of_lt_of_le hlm (Nat.le_add_right _ _)),(hk.le S1.le).le hle,(hw.le S1.le).le hle⟩)
   refine⟨.val (.ptr X.h.length 0 0 0) _,by simp only[mop,h1,hu,h3],_,S1.trans S2,rfl,rfl,X.h.length,⟨0,?_⟩,rfl⟩
   show(X.σ++[_])[X.sh.length]?=_
   rw[<- hr.len,List.getElem?_append_right (Nat.le_refl _),Nat.sub_self];rfl
  ·cases h
 ·cases h
theorem ziE(hr:RH X)(he:EvR X e m){x:Operand}{v w:SV}{sh':SH}(ho:e x=some v)(h:zoI v X.sh=some (w,sh')):∃ rs,mop P m X.h (.next x false)=some rs/\SRR X (.val w sh') rs:=by
 obtain⟨xm,h1,h2⟩:=he _ _ ho
 unfold zoI at h
 split at h
 ·rename_i it l k w hm
  cases h
  obtain⟨mi,ml,k',w',rfl,hb,hb2,hσ,hσ2,h3,h4,hk,hw⟩:=zbs hr h2 hm
  have S1:=zh5 hr (b':=.mit l true 0) (blk:=.mit ml true) hb hσ rfl (by simp) (by simp) (by simp [SB.md]) (fun hle=>⟨mi,ml,rfl,⟨0,hσ2⟩,Arr.zj (hr.lt _ _ _ hσ)⟩)
  exact⟨.val (.tup [.bool true,k',w']) _,by simp only[mop,h1,h3,h4,if_pos],_,S1,rfl,rfl,[.bool true,k',w'],rfl,_,_,rfl,rfl,_,_,rfl,hk.le S1.le,_,_,rfl,hw.le S1.le,rfl⟩
 ·rename_i it l k w hm
  cases h
  obtain⟨mi,ml,k',w',rfl,hb,hb2,hσ,hσ2,h3,h4,hk,hw⟩:=zbs hr h2 hm
  have hne:it≠l:=fun e=>by rw[e,hb2] at hb;cases hb
  have S1:=zh5 hr (b':=.map [k] [w] 0) (blk:=.map [(k',w')]) hb2 hσ2 rfl (by simp) (by simp) (by simp [SB.md]) (fun hle=>⟨ml,_,rfl,Arr.zj (hr.lt _ _ _ hσ2),⟨_,_,rfl,hk.le hle,rfl⟩,⟨_,_,rfl,hw.le hle,rfl⟩⟩)
  have S2:=zh5 S1.hr (b:=.mit l true 0) (b':=.gone) (blk:=.gone) (loc:=it) (mm:=mi) (by show(X.sh.set l _)[it]?=_;rw[List.getElem?_set_ne (Ne.symm hne)];exact hb) hσ rfl (by simp) (by simp) (by simp [SB.md]) (fun _=>trivial)
  exact⟨.val (.tup [.bool false]) _,by simp only[mop,h1,h3,h4,if_pos],_,S1.trans S2,rfl,rfl,[.bool false],rfl,_,_,rfl,rfl,rfl⟩
 ·cases h
theorem zgo(hr:RH X)(he:EvR X e m){x:Operand}{v w:SV}(ho:e x=some v)(h:zkQ v X.sh=some w):∃ rs,mop P m X.h (.entry x)=some rs/\SRR X (.val w X.sh) rs:=by
 obtain⟨xm,h1,h2⟩:=he _ _ ho
 unfold zkQ at h
 split at h
 ·rename_i it l k w hm
  cases h
  obtain⟨mi,ml,k',w',rfl,hb,hb2,hσ,hσ2,h3,h4,hk,hw⟩:=zbs hr h2 hm
  exact⟨.val (.tup [k',w']) X.h,by simp only[mop,h1,h3,h4,if_pos],X,.refl hr,rfl,rfl,[k',w'],rfl,_,_,rfl,hk,_,_,rfl,hw,rfl⟩
 ·cases h
theorem RCs.zmT{h:za}{Φ:Nat->Prop}{u:U}(hp:0<u.sz)(k:Nat):RCs h Φ u (List.replicate k u.zero) (zY u.wQ (k*u.sz)):=by
 have hz:=j3 (u:=u)
 refine⟨by simp [zY],fun i e hi=>?_⟩
 rw[List.getElem?_replicate] at hi
 split at hi
 ·rename_i hik
  cases hi
  have:part u.sz (zY u.wQ (k*u.sz)) i=u.wQ:=by
   have hm:i*u.sz+u.sz<=k*u.sz:=by rw[<- Nat.succ_mul];exact Nat.mul_le_mul_right _ hik
   refine List.ext_getElem? fun j=>?_
   unfold zY
   rw[zN,List.getElem?_take]
   split
   ·rename_i hj
    rw[List.getElem?_drop,List.getElem?_map,List.getElem?_range (by omega),hz,Nat.mul_comm]
    simp only[Option.map_some]
    rw[Nat.mul_add_mod,Nat.mod_eq_of_lt hj]
    show some (u.wQ.getD j _)=_
    rw[List.getD_eq_getElem?_getD,List.getElem?_eq_getElem (by omega)];rfl
   ·rw[List.getElem?_eq_none (by omega)]
  rw[this];exact .zero
 ·cases hi
theorem zgf(hr:RH X){t:TypeId}{v:SV}{sh':SH}(h:zkM P t X.sh=some (true,v,sh')):∃ rs,mop P m X.h (.alloc t)=some rs/\SRR X (.val v sh') rs:=by
 unfold zkM at h
 split at h
 ·rename_i w h2 ha
  cases h
  unfold zhy at ha
  split at ha
  ·rename_i n el hu
   split at ha
   ·rename_i u z hu6 hz
    split at ha
    ·rename_i hall
     cases ha
     simp only[Bool.and_eq_true] at hall
     obtain⟨⟨hpl,_⟩,hb⟩:=hall
     have hb:=AV.km _ _ hb
     have hp:0<u.sz:=by cases u<;>first|(cases hpl;done)|exact Nat.one_pos
     have hlen:z.cells.length=n*u.sz:=by rw[hb];simp [zY]
     have hg1:(X.h++[Blk.row z.cells 0 0 0 false (some t)])[X.h.length]?=some (.row z.cells 0 0 0 false (some t)):=by rw[Arr.zt (Nat.le_refl _),Nat.sub_self];rfl
     refine⟨.val (.ptr X.h.length 0 0 z.cells.length) (w9 X.h z.cells t),by simp only[mop,hz],_,Stp.push hr (b:=.seq u (List.replicate n u.zero) 0 0) (blk:=.row z.cells 0 0 0 false (some t)) (by simp [SB.md]) (fun hle=>⟨z.cells,0,some t,hg1,Nat.le_refl _,hb ▸ RCs.zmT hp n,fun e=>by cases e⟩),rfl,rfl,rfl,some (X.h.length,0),?_,fun u' l' k' md' hb'=>?_⟩
     ·show(X.σ++[_])[X.sh.length]?=_
      rw[<- hr.len,List.getElem?_append_right (Nat.le_refl _),Nat.sub_self];rfl
     ·have hb':(X.sh++[SB.seq u (List.replicate n u.zero) 0 0])[X.sh.length]?=some (.seq u' l' k' md'):=hb'
      rw[List.getElem?_append_right (Nat.le_refl _),Nat.sub_self] at hb'
      cases hb'
      exact⟨Nat.le_refl _,fun _=>⟨by simp,X.h.length,rfl,by rw[hlen]⟩⟩
    ·cases ha
   ·cases ha
  ·cases ha
 split at h
 ·rename_i z hz
  split at h
  ·rename_i w h2 hb
   cases h
   obtain⟨x,h3,h4⟩:=qb (X:=X) hz
   obtain⟨Y,h5,h6,h7,h8⟩:=zdR hr t (zkd P t) h4 hb
   exact⟨.val _ _,by simp only[mop,h3],Y,h5,h6,h7,h8⟩
  ·cases h
 ·cases h
def zbF(P:Program)(t:TypeId)(l c:SV)(h:SH):Option (Bool×SV×SH):=
 match P.underlying t,l,c with
 |some (.slice e),.a (.int _ l),.a (.int _ c)=>match uOf P 6 e with
  |some u=>match znO P e u with
   |true=>some ((decide (c<=l)||(decide (l<=0)||decide (64<c)))&&(decide (0<=l)&&decide (l<=c)&&decide (c<549755813888)),.gs h.length 0,h++[.seq u (List.replicate l.toNat u.zero) 0 0])
   |false=>none
  |none=>none
 |_,_,_=>none
theorem zcV(hr:RH X)(he:EvR X e m){t:TypeId}{ol oc:Operand}{l c v:SV}{sh':SH}(hl:e ol=some l)(hc:e oc=some c)(h:zbF P t l c X.sh=some (true,v,sh')):∃ rs,mop P m X.h (.makeSlice t ol oc)=some rs/\SRR X (.val v sh') rs:=by
 obtain⟨xl,h1,h2⟩:=he _ _ hl
 obtain⟨xc,h3,h4⟩:=he _ _ hc
 unfold zbF at h
 split at h
 ·rename_i el k1 n k2 c hu
  cases(show xl=_ from h2);cases(show xc=_ from h4)
  split at h
  ·rename_i u hu6
   split at h
   ·rename_i hel
    simp only[Option.some.injEq,Prod.mk.injEq,Bool.and_eq_true,Bool.or_eq_true,decide_eq_true_eq] at h
    obtain⟨⟨q0,⟨q1,q2⟩,q3⟩,rfl,rfl⟩:=h
    have hmk:zgP n.toNat c.toNat=n.toNat:=if_neg (by omega)
    obtain⟨i,z,x,E⟩:=jZ hel
    obtain⟨Y,h5,h6,h7,h8⟩:=kF hr (u:=u) (l:=List.replicate n.toNat u.zero) (tt:=some el) (hc:=RCs.zmT E.pos n.toNat)
    rw[List.length_replicate] at h8
    refine⟨.val _ _,?_,Y,h5,h6,h7,h8⟩
    simp only[mop,h1,h3,zbt,hu,E.info,E.zo,hmk]
    rw[if_pos ⟨q1,q2,q3,E.bytes,by rw[E.size];exact E.pos,by rw[E.xc,j3,E.size]⟩,E.xc,E.size]
    rfl
   ·cases h
  ·cases h
 ·cases h
theorem RCs.flat{u:U}{l:List (El u)}:∀ {cs:List AV},RCs X.h X.Φ u l cs->RVs X (l.flatMap (enc u)) cs:=by
 induction l with
 |nil=>intro cs q;have:=q.1;simp at this;subst this;rfl
 |cons a l ih=>
  intro cs q
  have hl:=q.1
  rw[List.length_cons,Nat.succ_mul] at hl
  have h0:=q.2 0 a rfl
  rw[zN,Nat.zero_mul,List.drop_zero] at h0
  rw[List.flatMap_cons,<- List.take_append_drop u.sz cs]
  refine(wu h0).append (ih ⟨by rw[List.length_drop];omega,fun i e hi=>?_⟩)
  have:=q.2 (i+1) e hi
  rw[zN,Nat.succ_mul] at this
  rw[zN,List.drop_drop,Nat.add_comm]
  exact this
def zle(z:List SV)(n:Nat):List SV:=(List.range n).map fun i=>z.getD (i % z.length) .top
theorem zf3{zs:List SV}{xs:List AV}(q:RVs X zs xs)(hp:0<zs.length)(n:Nat):RVs X (zle zs n) (zY xs n):=by
 have hl:=q.length
 have key:∀ i,RV X (zs.getD (i % zs.length) .top) (xs.getD (i % xs.length) .undef):=fun i=>by
  have hi:=Nat.mod_lt i hp
  obtain⟨x,h1,h2⟩:=q.get (List.getElem?_eq_getElem hi)
  rw[hl,List.getD_eq_getElem?_getD,List.getElem?_eq_getElem hi,List.getD_eq_getElem?_getD,h1]
  exact h2
 unfold zle zY
 generalize List.range n=l
 induction l with
 |nil=>rfl
 |cons a l ih=>exact⟨_,_,rfl,key a,ih⟩
def zaA(P:Program)(t:TypeId)(len:Nat)(parts:List (Nat×SV))(h:SH):Option (Bool×SV×SH):=
 match P.underlying t with
 |some (.slice e)=>match uOf P 6 e with
  |some u=>match znO P e u&&Nat.ble (len*u.sz) (2 ^ 24) with
   |true=>match zhd (fun i=>some (i*u.sz,u.sz)) ((List.replicate len u.zero).flatMap (enc u)) parts with
    |some cs=>match zoV u len cs h with
     |some (l,h')=>some (true,.gs h'.length 0,h'++[.seq u l 0 0])
     |none=>none
    |none=>none
   |false=>none
  |none=>match wI P e,zdb P e with
   |some (k+1),some z=>match z.whole&&Nat.beq z.cells.length (k+1)&&Nat.ble (len*(k+1)) (2 ^ 24) with
    |true=>match zhd (fun i=>some (i*(k+1),k+1)) (zle z.cells (len*(k+1))) parts with
     |some cs=>some (true,.csl h.length 0 len (k+1),h++[.cells cs 0])
     |none=>none
    |false=>none
   |_,_=>none
 |_=>none
theorem zb6(hr:RH X)(he:EvR X e m){t:TypeId}{len:Nat}{parts:Array (Nat×Operand)}{ps:List (Nat×SV)}{v:SV}{sh':SH}(hp:zda e parts.toList=some ps)(h:zaA P t len ps X.sh=some (true,v,sh')):∃ rs,mop P m X.h (.buildSlice t len parts)=some rs/\SRR X (.val v sh') rs:=by
 obtain⟨qs,h1,h2⟩:=zbY he hp
 unfold zaA at h
 split at h
 ·rename_i el hu
  split at h
  ·rename_i u hu6
   split at h
   ·rename_i hb
    simp only[Bool.and_eq_true] at hb
    obtain⟨i,z,x,E⟩:=jZ hb.1
    have hlen:=Nat.le_of_ble_eq_true hb.2
    split at h
    ·rename_i cs hcs
     split at h
     ·rename_i l h' hd
      cases h
      obtain⟨r',q1,q2⟩:=kI ((RCs.zmT E.pos len).flat) h2 hcs
      obtain⟨Y,S1,hh,hs,hll,hR⟩:=zdy u len hr q2 hd
      obtain⟨Z,h5,h6,h7,h8⟩:=kF S1.hr (tt:=some el) (hc:=hR)
      rw[hs] at h6 h8
      rw[hh] at h7 h8
      rw[hll] at h8
      refine⟨.val _ _,?_,Z,S1.trans h5,h6,h7,h8⟩
      have hpos:=E.pos
      obtain⟨n,hn⟩:∃ n,u.sz=n+1:=⟨u.sz-1,by omega⟩
      have hsz:=E.sz
      rw[hn] at hsz q1
      simp only[mop,h1,jk,hu,hsz,E.zo]
      rw[if_pos ⟨by rw[<- hn];exact hlen,by rw[E.xc,j3,hn]⟩,E.xc]
      simp only[q1,rvh]
      rw[hn];rfl
     ·cases h
    ·cases h
   ·cases h
  ·rename_i hu6
   split at h
   ·rename_i k z hk hz
    split at h
    ·rename_i hb
     simp only[Bool.and_eq_true] at hb
     split at h
     ·rename_i cs hcs
      cases h
      obtain⟨x,hx1,hx2⟩:=qb (X:=X) hz
      have hc:=hx2.zdf hb.1.1
      have hlen:z.cells.length=k+1:=zb hb.1.2
      obtain⟨r',q1,q2⟩:=kI (zf3 hc (by omega) (len*(k+1))) h2 hcs
      obtain⟨Y,h5,h6,h7,h8⟩:=zdP hr (tt:=some el) (hc:=q2)
      refine⟨.val (.sl X.h.length 0 len (k+1) 0 false) (w9 X.h r' el),?_,Y,h5,h6,h7,X.h.length,h8,rfl⟩
      simp only[mop,h1,jk,hu,hk,hx1]
      rw[if_pos ⟨Nat.le_of_ble_eq_true hb.2,by rw[hc.length];exact hlen⟩]
      simp only[q1,rvh]
     ·cases h
    ·cases h
   ·cases h
 ·cases h
def zmC(P:Program)(t2:TypeId)(u:U)(x:SV)(h:SH):Option (List (El u)):=match P.underlying t2 with
 |some .string=>match x with
  |.a (.str l)=>qX .u8 u l
  |_=>none
 |some (.slice _)=>reads u x h
 |_=>none
theorem wG(hr:RH X){t2:TypeId}{u:U}{v:SV}{x:AV}{l:List (El u)}(hv:RV X v x)(h:zmC P t2 u v X.sh=some l):
  ∃ xs,RCs X.h X.Φ u l xs/\zmb P t2 u.sz x X.h=some (xs,l.length):=by
 unfold zmC at h
 split at h
 ·rename_i hu
  split at h
  ·rename_i s
   cases(show x=_ from hv)
   obtain⟨e1,e2⟩:=zq h
   subst e1;cases e2
   exact⟨_,.ofBytes s,by simp only[zmb,hu,U.sz,if_true]⟩
  ·cases h
 ·rename_i el hu
  rcases wE hr hv h with⟨rfl,rfl⟩|⟨m',off,ver,clip,cs,rfl,q1,q2⟩
  ·exact⟨[],.nil,by simp only[zmb,hu];rfl⟩
  ·exact⟨cs,q2,by simp only[zmb,hu,if_true,q1]⟩
 ·cases h
theorem RCs.zfI{h:za}{Φ:Nat->Prop}{u:U}:∀ {l:List (El u)} {cs:List AV},RCs h Φ u l cs->cs.all AV.one=true:=by
 intro l
 induction l with
 |nil=>intro cs q;have:=q.1;simp at this;subst this;rfl
 |cons a l ih=>
  intro cs q
  have hl:=q.1
  rw[List.length_cons,Nat.succ_mul] at hl
  have h0:=q.2 0 a rfl
  rw[zN,Nat.zero_mul,List.drop_zero] at h0
  rw[<- List.take_append_drop u.sz cs,List.all_append,h0.one,ih ⟨by rw[List.length_drop];omega,fun i e hi=>?_⟩];rfl
  have:=q.2 (i+1) e hi
  rw[zN,Nat.succ_mul] at this
  rw[zN,List.drop_drop,Nat.add_comm]
  exact this
theorem zar{t t2:TypeId}{el:TypeId}{u:U}{i:TypeInfo}{z:Value}{x0:AV}(hu:P.underlying t=some (.slice el))(E:zrc P el u i z x0){s x:AV}{h:za}{xs:List AV}{k:Nat}(hs:zmb P t2 u.sz x h=some (xs,k)):zbn P t t2 s x h=Mx.app h el s u.sz xs k:=by
 unfold zmb at hs
 simp only[zbn,hu,E.info,E.zero]
 rw[if_pos ⟨E.zc,E.bytes⟩,E.size]
 split at hs
 ·rename_i hu2;cases hs;rfl
 ·rename_i hu2
  split at hs
  ·rename_i hz
   split at hs
   ·rename_i cs hc;cases hs;subst hz;rw[if_pos rfl]
   ·cases hs
  ·cases hs
 ·rename_i hu2
  split at hs
  ·rename_i hz;cases hs;rw[if_pos hz,hz]
  ·cases hs
 ·cases hs
def zg7(P:Program)(t t2:TypeId)(s x:SV)(h:SH):zeY:=
 match P.underlying t with
 |some (.slice e)=>match uOf P 6 e with
  |some u=>match znO P e u,zmC P t2 u x h,s with
   |true,some xs,.a .qj=>one (Nat.blt xs.length qw) (.gs h.length (mk0 u e)) (h++[.seq u xs (mk0 u e) 0])
   |true,some xs,.gs loc n=>match h[loc]? with
    |some (.seq u' l k 0)=>match Nat.beq k n&&mkA n e,qX u' u l with
     |true,some l=>one (Nat.blt (l.length+xs.length) qw) (.gs loc (n+1)) (h.set loc (.seq u (l++xs) (n+1) 0))
     |_,_=>[]
    |_=>[]
   |true,some xs,.cl u' []=>match decide (u'=u) with
    |true=>[(Nat.beq xs.length 0,.val (.isl u []) h),(Nat.blt xs.length qw,.val (.gs h.length 0) (h++[.seq u xs 0 0]))]
    |false=>[]
   |_,_,_=>[]
  |none=>[]
 |_=>[]
theorem zkv(hr:RH X){el:TypeId}{u:U}{l:List (El u)}{xs:List AV}(n:Nat)(hn:(mkS n).or (some el)=some el)(hR:RCs X.h X.Φ u l xs)(hp:0<u.sz)(hl:Nat.blt l.length qw=true):
  ∃ y h',Mx.app X.h el .qj u.sz xs l.length=some (y,h')/\∃ Y,Stp X Y/\Y.sh=X.sh++[.seq u l n 0]/\Y.h=h'/\RV Y (.gs X.sh.length n) y:=by
 by_cases h0:l.length=0
 ·have hl0:l=[]:=List.length_eq_zero_iff.1 h0
  subst hl0
  refine⟨.qj,X.h,?_,_,Stp.zpH hr (b:=.seq u [] n 0) (by simp [SB.md]) (fun _=>rfl),rfl,rfl,rfl,none,?_,fun u' l' k' md' hb'=>?_⟩
  ·unfold Mx.app;rw[if_pos ⟨hR.zfI,hR.1,hp⟩];rfl
  ·show(X.σ++[_])[X.sh.length]?=_
   rw[<- hr.len,List.getElem?_append_right (Nat.le_refl _),Nat.sub_self];rfl
  ·have hb':(X.sh++[SB.seq u [] n 0])[X.sh.length]?=some (.seq u' l' k' md'):=hb'
   rw[List.getElem?_append_right (Nat.le_refl _),Nat.sub_self] at hb'
   cases hb'
   exact⟨Nat.le_refl _,fun _=>⟨rfl,rfl⟩⟩
 ·obtain⟨Y,h5,h6,h7,h8⟩:=kF hr (tt:=some el) n hn hR
  refine⟨_,_,?_,Y,h5,h6,h7,h8⟩
  unfold Mx.app
  rw[if_pos ⟨hR.zfI,hR.1,hp⟩]
  simp only
  rw[if_neg h0,if_pos (show l.length<549755813888 from qg hl)];rfl
theorem zeG(hr:RH X){t t2:TypeId}{s x:SV}{ms mx:AV}{q:SR}(h2:RV X s ms)(h4:RV X x mx)(h:Hit (zg7 P t t2 s x X.sh) q):∃ y h' v sh',zbn P t t2 ms mx X.h=some (y,h')/\q=.val v sh'/\∃ Y,Stp X Y/\Y.sh=sh'/\Y.h=h'/\RV Y v y:=by
 unfold zg7 at h
 split at h
 ·rename_i el hu
  split at h
  ·rename_i u hu6
   split at h
   ·rename_i xs hel hsr
    obtain⟨hg,rfl⟩:=qa h
    cases(show ms=_ from h2)
    obtain⟨i,z,x0,E⟩:=jZ hel
    obtain⟨cs,hR,hms⟩:=wG hr h4 hsr
    obtain⟨y,h',h5,Y,h6,h7,h8,h9⟩:=zkv hr (el:=el) (mk0 u el) (zps u el) hR E.pos hg
    exact⟨y,h',_,_,(zar hu E hms).trans h5,rfl,Y,h6,h7,h8,h9⟩
   ·rename_i xs loc n hel hsr
    split at h
    ·rename_i u' l k hb
     split at h
     ·rename_i l2 hk hcu
      obtain⟨hg,rfl⟩:=qa h
      simp only[Bool.and_eq_true] at hk
      obtain⟨hk,hma⟩:=hk
      have hk:=zb hk
      subst hk
      obtain⟨e1,e2⟩:=zq hcu
      subst e1;cases e2
      obtain⟨i,z,x0,E⟩:=jZ hel
      obtain⟨cs,hR,hms⟩:=wG hr h4 hsr
      obtain⟨hone,o,ho,hc⟩:=h2
      have hQ:=(hc _ _ _ _ hb).2 rfl
      have hB:=hr.blk _ _ _ hb ho
      rw[zar hu E hms]
      have hlt:=qg hg
      have hlen:(l++xs).length=l.length+xs.length:=List.length_append
      have hloc:=(List.getElem?_eq_some_iff.1 hb).1
      have hsetσ:∀ o',(X.σ.set loc o')[loc]?=some o':=fun o'=>List.getElem?_set_self (by rw[hr.len];exact hloc)
      have hsets:∀ b',(X.sh.set loc b')[loc]?=some b':=fun b'=>List.getElem?_set_self hloc
      cases o with
      |none=>
       obtain⟨rfl,hl0⟩:=hQ
       have hl0':l=[]:=List.length_eq_zero_iff.1 hl0
       subst hl0'
       by_cases h0:xs.length=0
       ·have hx0:xs=[]:=List.length_eq_zero_iff.1 h0
        subst hx0
        refine⟨.qj,X.h,_,_,by unfold Mx.app;rw[if_pos ⟨hR.zfI,hR.1,E.pos⟩];rfl,rfl,⟨X.h,X.Φ,X.σ.set loc none,X.sh.set loc (.seq u' ([]++[]) (k+1) 0)⟩,?_,rfl,rfl,rfl,none,hsetσ _,fun u2 l2 k2 md2 hb2=>?_⟩
        ·refine Stp.turn hr hb ho (by simp) (fun _ _ _=>rfl) (fun _ _ e=>by cases e) (Nat.le_refl _) (fun m=>⟨.inl,fun h=>h.elim id fun h=>by cases h.1⟩) rfl rfl (fun _ _ e=>by cases e) (fun _ _ e=>by cases e)
          (fun u3 l3 k3 md3 e=>by cases e;exact⟨[],k,0,rfl,Nat.le_succ _,fun e=>absurd e (by omega)⟩) (fun h=>h) (fun h=>h.elim (fun h=>by cases h) fun h=>by cases h) fun _=>rfl
        ·rw[hsets] at hb2;cases hb2;exact⟨Nat.le_refl _,fun _=>⟨rfl,rfl⟩⟩
       ·refine⟨.sl X.h.length 0 xs.length u'.sz 0 false,w9 X.h cs el,_,_,?_,rfl,⟨w9 X.h cs el,X.Φ,X.σ.set loc (some (X.h.length,0)),X.sh.set loc (.seq u' ([]++xs) (k+1) 0)⟩,?_,rfl,rfl,rfl,some (X.h.length,0),hsetσ _,fun u2 l2 k2 md2 hb2=>?_⟩
        ·unfold Mx.app
         rw[if_pos ⟨hR.zfI,hR.1,E.pos⟩]
         simp only
         rw[if_neg h0,if_pos (show xs.length<549755813888 by simpa [qw] using hlt)]
        ·refine Stp.turn hr hb ho (by simp) (fun m hm _=>Arr.zO hm) (fun _ _ e=>by cases e) (by show _<=(X.h++[Blk.row cs 0 0 0 false (some el)]).length;rw[Arr.zv];omega) (fun m=>⟨.inl,fun h=>h.elim id fun h=>by cases h.1⟩) rfl rfl (fun _ _ e=>by cases e;exact⟨by show _<(X.h++[Blk.row cs 0 0 0 false (some el)]).length;rw[Arr.zv];simp,.inr ⟨rfl,Nat.le_refl _⟩⟩) (fun _ _ e=>by cases e)
          (fun u3 l3 k3 md3 e=>by cases e;exact⟨[],k,0,rfl,Nat.le_succ _,fun e=>absurd e (by omega)⟩) (fun h=>h) (fun h=>h.elim (fun h=>by cases h) fun h=>by cases h) fun hle=>⟨cs,0,some el,?_,Nat.le_refl _,hR.le hle.h hle.Φ,fun e=>by cases e⟩
         show(X.h++[_])[X.h.length]?=_
         rw[zod hma,Arr.zt (Nat.le_refl _),Nat.sub_self];rfl
        ·rw[hsets] at hb2;cases hb2;exact⟨Nat.le_refl _,fun _=>rfl⟩
      |some p=>
       obtain⟨mm,ver⟩:=p
       obtain⟨cells,minv,tt,q1,q2,q3,q4⟩:=hB
       cases(show ms=_ from hQ)
       have hmm:=hr.lt _ _ _ ho
       obtain⟨tt',htt⟩:=zpt hma tt
       obtain⟨tt0,htt0⟩:=zkc (Bool.and_eq_true _ _ ▸ hma:_/\_).2 tt
       by_cases h0:xs.length=0
       ·have hx0:xs=[]:=List.length_eq_zero_iff.1 h0
        subst hx0
        refine⟨.sl mm 0 l.length u'.sz ver false,X.h,_,_,?_,rfl,⟨X.h,X.Φ,X.σ.set loc (some (mm,ver)),X.sh.set loc (.seq u' (l++[]) (k+1) 0)⟩,?_,rfl,rfl,rfl,some (mm,ver),hsetσ _,fun u2 l2 k2 md2 hb2=>?_⟩
        ·unfold Mx.app
         rw[if_pos ⟨hR.zfI,hR.1,E.pos⟩]
         simp only
         rw[if_pos ⟨trivial,hlt⟩];rfl
        ·refine Stp.turn hr hb ho (by simp) (fun _ _ _=>rfl) (fun _ _ e=>.inl rfl) (Nat.le_refl _) (fun m=>⟨.inl,fun h=>h.elim id fun h=>by cases h.1⟩) rfl rfl (fun _ _ e=>by cases e;exact⟨hmm,.inl ⟨_,rfl⟩⟩) (fun m v e=>⟨v,e⟩)
          (fun u3 l3 k3 md3 e=>by cases e;exact⟨l,k,0,rfl,Nat.le_succ _,fun e=>absurd e (by omega)⟩) (fun h=>h) (fun h=>h.elim (fun h=>by cases h) fun h=>by cases h) fun hle=>⟨cells,minv,_,q1.trans (congrArg (fun t=>some (Blk.row cells ver minv 0 false t)) htt0),q2,by rw[List.append_nil];exact q3.le hle.h hle.Φ,fun e=>by cases e⟩
        ·rw[hsets] at hb2;cases hb2;exact⟨Nat.le_refl _,fun _=>by rw[List.append_nil]⟩
       ·refine⟨.sl mm 0 (l.length+xs.length) u'.sz (ver+1) false,X.h.set mm (.row (cells++cs) (ver+1) minv 0 false (if(mkS k).or tt=some el then(mkS k).or tt else none)),_,_,?_,rfl,
         ⟨X.h.set mm (.row (cells++cs) (ver+1) minv 0 false (if(mkS k).or tt=some el then(mkS k).or tt else none)),X.Φ,X.σ.set loc (some (mm,ver+1)),X.sh.set loc (.seq u' (l++xs) (k+1) 0)⟩,?_,rfl,rfl,rfl,some (mm,ver+1),hsetσ _,fun u2 l2 k2 md2 hb2=>?_⟩
        ·unfold Mx.app
         rw[if_pos ⟨hR.zfI,hR.1,E.pos⟩]
         simp only
         rw[if_pos ⟨trivial,hlt⟩,if_neg h0,if_neg (by simp),q1]
         simp only
         rw[if_pos trivial,if_pos (by rw[q3.1,Nat.zero_add])]
        ·refine Stp.turn hr hb ho (by simp) (fun m' hm' hne=>Arr.zk fun e=>hne ver (e ▸ rfl)) (fun _ _ _=>.inr rfl) (by show _<=(X.h.set _ _).length;rw[Arr.length_set];exact Nat.le_refl _) (fun m=>⟨.inl,fun h=>h.elim id fun h=>by cases h.1⟩) rfl rfl
          (fun _ _ e=>by cases e;exact⟨by show _<(X.h.set _ _).length;rw[Arr.length_set];exact hmm,.inl ⟨_,rfl⟩⟩) (fun m v e=>by cases e;exact⟨_,rfl⟩)
          (fun u3 l3 k3 md3 e=>by cases e;exact⟨l,k,0,rfl,Nat.le_succ _,fun e=>absurd e (by omega)⟩) (fun h=>h) (fun h=>h.elim (fun h=>by cases h) fun h=>by cases h)
          fun hle=>⟨_,minv,_,(Arr.zj hmm).trans (congrArg (fun t=>some (Blk.row (cells++cs) (ver+1) minv 0 false t)) htt),Nat.le_succ_of_le q2,(q3.le hle.h hle.Φ).append (hR.le hle.h hle.Φ),fun e=>by cases e⟩
        ·rw[hsets] at hb2;cases hb2;exact⟨Nat.le_refl _,fun _=>by rw[hlen]⟩
     ·cases h
    ·cases h
   ·rename_i xs u' hel hsr
    split at h
    ·rename_i hdu
     have hdu:=of_decide_eq_true hdu
     subst hdu
     obtain⟨i,z,x0,E⟩:=jZ hel
     obtain⟨cs,hR,hms⟩:=wG hr h4 hsr
     rw[zar hu E hms]
     rcases h with⟨h0,rfl⟩|⟨h0,⟨hg,rfl⟩|⟨_,h⟩⟩
     ·have h0:=zb h0
      refine⟨ms,X.h,_,_,?_,rfl,X,.refl hr,rfl,rfl,?_⟩
      ·unfold Mx.app
       rw[if_pos ⟨hR.zfI,hR.1,E.pos⟩,h0]
       rcases h2.1 with⟨_,rfl⟩|⟨m',off,ver,c',cs',rfl,hc',hΦ,hrd,hRC⟩
       ·rfl
       ·simp only;rw[if_pos ⟨trivial,by simp⟩];rfl
      ·rcases h2.1 with h2|⟨m',off,ver,c',cs',rfl,hc',hΦ,hrd,hRC⟩
       ·exact .inl h2
       ·exact .inr ⟨m',off,ver,c',cs',rfl,.inr rfl,hΦ,hrd,hRC⟩
     ·have h0:¬ xs.length=0:=fun e=>by rw[e] at h0;cases h0
      obtain⟨y,h',h5,Y,h6,h7,h8,h9⟩:=zkv hr (el:=el) 0 rfl hR E.pos hg
      obtain⟨h2,hcl⟩:=h2
      rcases h2 with⟨_,rfl⟩|⟨m',off,ver,c',cs',rfl,hc',hΦ,hrd,hRC⟩
      ·exact⟨y,h',_,_,h5,rfl,Y,h6,h7,h8,h9⟩
      ·have hcl:c'=true:=hcl
       subst hcl
       obtain⟨Y,h5,h6,h7,h8⟩:=kF hr (tt:=some el) (hc:=hR)
       refine⟨_,_,_,_,?_,rfl,Y,h5,h6,h7,h8⟩
       have hcs':cs'=[]:=List.length_eq_zero_iff.1 (by have:=hRC.1;simpa using this)
       subst hcs'
       have hlt:=qg hg
       unfold Mx.app
       rw[if_pos ⟨hR.zfI,hR.1,E.pos⟩]
       simp only[List.length_nil,Nat.zero_add] at hrd |-
       rw[if_pos ⟨trivial,show xs.length<549755813888 from hlt⟩,if_neg h0,if_pos trivial,hrd]
       rfl
     ·cases h
    ·cases h
   ·cases h
  ·cases h
 ·cases h
end
end Go.Sx
namespace Go.Sx
open Go Go.Gx Go.Mx
variable [qE]
section
variable {P:Program} {gl:GL} {X:Gst} {e:Operand->Option SV} {m:Operand->Option AV}
def kP{α:Type}(l:List α)(off:Nat)(xs:List α):List α:=l.take off++xs++l.drop (off+xs.length)
theorem RCs.take{h:za}{Φ:Nat->Prop}{u:U}{l:List (El u)}{cs:List AV}(q:RCs h Φ u l cs)(n:Nat)(hn:n<=l.length):RCs h Φ u (l.take n) (cs.take (n*u.sz)):=by
 have:=q.slice (a:=0) (n:=n) (by omega)
 simpa [Sx.slice] using this
theorem RCs.drop{h:za}{Φ:Nat->Prop}{u:U}{l:List (El u)}{cs:List AV}(q:RCs h Φ u l cs)(n:Nat)(hn:n<=l.length):RCs h Φ u (l.drop n) (cs.drop (n*u.sz)):=by
 have:=q.slice (a:=n) (n:=l.length-n) (by omega)
 have h1:=q.1
 have e1:Sx.slice l n (n+(l.length-n))=l.drop n:=by unfold Sx.slice;rw[List.take_of_length_le (by rw[List.length_drop];omega)]
 have e2:(cs.drop (n*u.sz)).take ((l.length-n)*u.sz)=cs.drop (n*u.sz):=List.take_of_length_le (by rw[List.length_drop,h1,Nat.sub_mul];exact Nat.le_refl _)
 rwa [e1,e2] at this
def zoH(P:Program)(t t2:TypeId)(d x:SV)(h:SH):Option (Bool×SV×SH):=
 match P.underlying t with
 |some (.slice e)=>match uOf P 6 e with
  |some u=>match znO P e u,zmC P t2 u x h,d with
   |true,some xs,.gs loc n=>match h[loc]? with
    |some (.seq u' l k 0)=>match Nat.beq k n,qX u' u l with
     |true,some l=>some (true,.a (.int .i64 (min xs.length l.length:Nat)),h.set loc (.seq u (kP l 0 (xs.take l.length)) n 0))
     |_,_=>none
    |_=>none
   |true,some xs,.sl loc n off len _=>match h[loc]? with
    |some (.seq u' l k 0)=>match Nat.beq k n,qX u' u l with
     |true,some l=>some (true,.a (.int .i64 (min xs.length len:Nat)),h.set loc (.seq u (kP l off (xs.take len)) n 0))
     |_,_=>none
    |_=>none
   |_,_,_=>none
  |none=>none
 |_=>none
theorem zgm(hr:RH X){loc:Nat}{u:U}{l xs:List (El u)}{k off len mm ver:Nat}{c:Bool}{cs:List AV}(hp:0<u.sz)(hb:X.sh[loc]?=some (.seq u l k 0))(ho:X.σ[loc]?=some (some (mm,ver)))(hl:off+len<=l.length)(hR:RCs X.h X.Φ u xs cs):
  ∃ h',(if min xs.length len=0 then some (AV.int .i64 0,X.h) else match wr X.h mm (off*u.sz) ver (off*u.sz+len*u.sz) (cs.take (min xs.length len*u.sz)) with|some h'=>some (AV.int .i64 (min xs.length len:Nat),h')|none=>none)=some (AV.int .i64 (min xs.length len:Nat),h') /\
   ∃ Y,Stp X Y/\Y.sh=X.sh.set loc (.seq u (kP l off (xs.take len)) k 0)/\Y.h=h':=by
 obtain⟨cells,minv,tt,q1,q2,q3,q4⟩:=hr.blk _ _ _ hb ho
 have hmm:=hr.lt _ _ _ ho
 have hxl:(xs.take len).length=min xs.length len:=by rw[List.length_take];exact Nat.min_comm _ _
 have hupd:(kP l off (xs.take len)).length=l.length:=by
  unfold kP;rw[List.length_append,List.length_append,List.length_take,List.length_drop,hxl];omega
 by_cases h0:min xs.length len=0
 ·refine⟨X.h,by rw[if_pos h0,h0];rfl,⟨X.h,X.Φ,X.σ,X.sh.set loc (.seq u (kP l off (xs.take len)) k 0)⟩,?_,rfl,rfl⟩
  have hx0:xs.take len=[]:=List.length_eq_zero_iff.1 (hxl.trans h0)
  have he:kP l off (xs.take len)=l:=by unfold kP;rw[hx0];simp
  rw[he]
  refine Stp.turn hr hb ho (by simp) (fun _ _ _=>rfl) (fun _ _ e=>.inl rfl) (Nat.le_refl _) (fun m=>⟨.inl,fun h=>h.elim id fun h=>by cases h.1⟩) (z7 ho).symm rfl (fun _ _ e=>by cases e;exact⟨hmm,.inl ⟨_,rfl⟩⟩) (fun m v e=>⟨v,e⟩)
   (fun u3 l3 k3 md3 e=>by cases e;exact⟨l,k,0,rfl,Nat.le_refl _,fun _=>⟨rfl,rfl⟩⟩) (fun h=>h) (fun h=>h.elim (fun h=>by cases h) fun h=>by cases h) fun hle=>⟨cells,minv,tt,q1,q2,q3.le hle.h hle.Φ,fun e=>by cases e⟩
 ·have hcl:(cs.take (min xs.length len*u.sz)).length=min xs.length len*u.sz:=by
   rw[List.length_take,hR.1];exact Nat.min_eq_left (Nat.mul_le_mul_right _ (Nat.min_le_left _ _))
  refine⟨X.h.set mm (.row (cells.take (off*u.sz)++cs.take (min xs.length len*u.sz)++cells.drop (off*u.sz+(cs.take (min xs.length len*u.sz)).length)) ver ver 0 false ((mkS k).or tt)),?_,⟨X.h.set mm (.row (cells.take (off*u.sz)++cs.take (min xs.length len*u.sz)++cells.drop (off*u.sz+(cs.take (min xs.length len*u.sz)).length)) ver ver 0 false ((mkS k).or tt)),X.Φ,X.σ,X.sh.set loc (.seq u (kP l off (xs.take len)) k 0)⟩,?_,rfl,rfl⟩
  ·have hones:(cs.take (min xs.length len*u.sz)).all AV.one=true:=by
    have:=hR.zfI
    rw[List.all_eq_true] at this |-
    exact fun x hx=>this x (List.mem_of_mem_take hx)
   rw[if_neg h0]
   unfold wr;rw[q1];simp only
   rw[if_pos ⟨trivial,Nat.zero_le _,by rw[hcl];exact Nat.add_le_add_left (Nat.mul_le_mul_right _ (Nat.min_le_right _ _)) _,hones⟩]
  ·refine Stp.turn hr hb ho (by simp) (fun m' hm' hne=>Arr.zk fun e=>hne ver (e ▸ rfl)) (fun _ _ _=>.inr rfl) (by show _<=(X.h.set _ _).length;rw[Arr.length_set];exact Nat.le_refl _)
    (fun m=>⟨.inl,fun h=>h.elim id fun h=>by cases h.1⟩) (z7 ho).symm rfl (fun m' v' e=>by cases e;exact⟨by show _<(X.h.set _ _).length;rw[Arr.length_set];exact hmm,.inl ⟨_,rfl⟩⟩) (fun m v e=>⟨v,e⟩)
    (fun u3 l3 k3 md3 e=>by cases e;exact⟨l,k,0,rfl,Nat.le_refl _,fun _=>⟨hupd.symm,rfl⟩⟩) (fun h=>h) (fun h=>h.elim (fun h=>by cases h) fun h=>by cases h) fun hle=>?_
   refine⟨_,ver,tt,Arr.zj hmm,Nat.le_refl _,?_,fun e=>by cases e⟩
   have a1:=(q3.take off (by omega)).append (hR.take (min xs.length len) (Nat.min_le_left _ _))
   have a2:=a1.append (q3.drop (off+min xs.length len) (by omega))
   have e1:xs.take (min xs.length len)=xs.take len:=by rw[List.take_eq_take_iff];omega
   have e2:kP l off (xs.take len)=l.take off++xs.take (min xs.length len)++l.drop (off+min xs.length len):=by unfold kP;rw[hxl,e1]
   have a3:=a2.le hle.h hle.Φ
   have e3:off*u.sz+(cs.take (min xs.length len*u.sz)).length=(off+min xs.length len)*u.sz:=by rw[hcl,<- Nat.add_mul]
   rw[<- e2,<- e3] at a3
   exact a3
theorem zhb(hr:RH X){t t2:TypeId}{d x v:SV}{md mx:AV}{sh':SH}(h2:RV X d md)(h4:RV X x mx)(h:zoH P t t2 d x X.sh=some (true,v,sh')):∃ y h',zfs P t t2 md mx X.h=some (y,h')/\∃ Y,Stp X Y/\Y.sh=sh'/\Y.h=h'/\RV Y v y:=by
 unfold zoH at h
 split at h
 ·rename_i el hu
  split at h
  ·rename_i u hu6
   split at h
   ·rename_i xs loc n hel hsr
    split at h
    ·rename_i u' l k hb
     split at h
     ·rename_i l2 hk hcu
      cases h
      have hk:=zb hk
      subst hk
      obtain⟨e1,e2⟩:=zq hcu
      subst e1;cases e2
      obtain⟨i,z,x0,E⟩:=jZ hel
      obtain⟨cs,hR,hms⟩:=wG hr h4 hsr
      obtain⟨hone,o,ho,hc⟩:=h2
      have hQ:=(hc _ _ _ _ hb).2 rfl
      cases o with
      |none=>
       obtain⟨rfl,hl0⟩:=hQ
       have hl0':l=[]:=List.length_eq_zero_iff.1 hl0
       subst hl0'
       refine⟨.int .i64 0,X.h,by simp only[zfs,hu,E.sz,hms],X,.refl hr,?_,rfl,?_⟩
       ·exact(z7 (by rw[hb];simp [kP])).symm
       ·show _=_;simp
      |some p=>
       obtain⟨mm,ver⟩:=p
       cases(show md=_ from hQ)
       obtain⟨h',h5,Y,h6,h7,h8⟩:=zgm hr (xs:=xs) (off:=0) (len:=l.length) (c:=false) E.pos hb ho (by omega) hR
       refine⟨_,h',?_,Y,h6,h7,h8,rfl⟩
       simp only[zfs,hu,E.sz,hms,if_true]
       rw[Nat.zero_mul] at h5
       exact h5
     ·cases h
    ·cases h
   ·rename_i xs loc n off len c hel hsr
    split at h
    ·rename_i u' l k hb
     split at h
     ·rename_i l2 hk hcu
      cases h
      have hk:=zb hk
      subst hk
      obtain⟨e1,e2⟩:=zq hcu
      subst e1;cases e2
      obtain⟨i,z,x0,E⟩:=jZ hel
      obtain⟨cs,hR,hms⟩:=wG hr h4 hsr
      obtain⟨hone,o,ho,hc⟩:=h2
      obtain⟨hl,hQ⟩:=(hc _ _ _ _ hb).2 rfl
      cases o with
      |none=>
       cases(show md=_ from hQ)
       have hl0:l=[]:=hr.blk _ _ _ hb ho
       subst hl0
       simp only[List.length_nil,Nat.le_zero_eq,Nat.add_eq_zero_iff] at hl
       obtain⟨rfl,rfl⟩:=hl
       refine⟨.int .i64 0,X.h,by simp only[zfs,hu,E.sz,hms],X,.refl hr,?_,rfl,?_⟩
       ·exact(z7 (by rw[hb];simp [kP])).symm
       ·show _=_;simp
      |some p=>
       obtain⟨mm,ver⟩:=p
       cases(show md=_ from hQ)
       obtain⟨h',h5,Y,h6,h7,h8⟩:=zgm hr (xs:=xs) (off:=off) (len:=len) (c:=c) E.pos hb ho hl hR
       refine⟨_,h',?_,Y,h6,h7,h8,rfl⟩
       simp only[zfs,hu,E.sz,hms,if_true]
       exact h5
     ·cases h
    ·cases h
   ·cases h
  ·cases h
 ·cases h
def zkP(P:Program)(t:TypeId)(d:SV)(h:SH):Option SH:=
 match P.underlying t with
 |some (.slice e)=>match uOf P 6 e with
  |some u=>match znO P e u,d with
   |true,.gs loc n=>match h[loc]? with
    |some (.seq u' l k 0)=>match Nat.beq k n,qX u' u l with
     |true,some l=>some (h.set loc (.seq u (kP l 0 ((List.replicate l.length u.zero).take l.length)) n 0))
     |_,_=>none
    |_=>none
   |true,.sl loc n off len _=>match h[loc]? with
    |some (.seq u' l k 0)=>match Nat.beq k n,qX u' u l with
     |true,some l=>some (h.set loc (.seq u (kP l off ((List.replicate len u.zero).take len)) n 0))
     |_,_=>none
    |_=>none
   |_,_=>none
  |none=>none
 |_=>none
theorem zhC(hr:RH X){loc:Nat}{u:U}{l:List (El u)}{k off len mm ver:Nat}{cells:List AV}{e:TypeId}{t:TypeId}{z x0:AV}{c:Bool}(hu:P.underlying t=some (.slice e))(hz:zeroOf P e=some x0)(hx:x0.cells=u.wQ)(hp:0<u.sz)(hb:X.sh[loc]?=some (.seq u l k 0))(ho:X.σ[loc]?=some (some (mm,ver)))(hl:off+len<=l.length):
  ∃ h',mclear P t (.sl mm (off*u.sz) len u.sz ver c) X.h=some h'/\∃ Y,Stp X Y/\Y.sh=X.sh.set loc (.seq u (kP l off ((List.replicate len u.zero).take len)) k 0)/\Y.h=h':=by
 have hR:=RCs.zmT (h:=X.h) (Φ:=X.Φ) hp len
 obtain⟨h',h5,Y,h6,h7,h8⟩:=zgm hr (xs:=List.replicate len u.zero) (off:=off) (len:=len) (c:=c) hp hb ho hl hR
 refine⟨h',?_,Y,h6,h7,h8⟩
 simp only[mclear,hu,hz]
 simp only[List.length_replicate,Nat.min_self] at h5
 split at h5
 ·rename_i h0
  rw[if_pos h0];cases h5;rfl
 ·rename_i h0
  rw[if_neg h0,hx,if_pos j3]
  split at h5
  ·rename_i h2 hw
   cases h5
   have hlen:(zY u.wQ (len*u.sz)).take (len*u.sz)=zY u.wQ (len*u.sz):=List.take_of_length_le (by simp [zY])
   rw[hlen] at hw
   exact hw
  ·cases h5
theorem zfX(hr:RH X){t:TypeId}{d:SV}{md:AV}{sh':SH}(h2:RV X d md)(h:zkP P t d X.sh=some sh'):∃ h',mclear P t md X.h=some h'/\∃ Y,Stp X Y/\Y.sh=sh'/\Y.h=h':=by
 unfold zkP at h
 split at h
 ·rename_i el hu
  split at h
  ·rename_i u hu6
   split at h
   ·rename_i loc n hel
    split at h
    ·rename_i u' l k hb
     split at h
     ·rename_i l2 hk hcu
      cases h
      have hk:=zb hk
      subst hk
      obtain⟨e1,e2⟩:=zq hcu
      subst e1;cases e2
      obtain⟨i,z,x0,E⟩:=jZ hel
      obtain⟨hone,o,ho,hc⟩:=h2
      have hQ:=(hc _ _ _ _ hb).2 rfl
      cases o with
      |none=>
       obtain⟨rfl,hl0⟩:=hQ
       have hl0':l=[]:=List.length_eq_zero_iff.1 hl0
       subst hl0'
       refine⟨X.h,by simp only[mclear,hu],X,.refl hr,?_,rfl⟩
       exact(z7 (by rw[hb];simp [kP])).symm
      |some p=>
       obtain⟨mm,ver⟩:=p
       cases(show md=_ from hQ)
       have:=zhC hr (off:=0) (len:=l.length) (c:=false) (cells:=[]) (z:=x0) hu E.zo E.xc E.pos hb ho (by omega)
       rw[Nat.zero_mul] at this
       exact this
     ·cases h
    ·cases h
   ·rename_i loc n off len c hel
    split at h
    ·rename_i u' l k hb
     split at h
     ·rename_i l2 hk hcu
      cases h
      have hk:=zb hk
      subst hk
      obtain⟨e1,e2⟩:=zq hcu
      subst e1;cases e2
      obtain⟨i,z,x0,E⟩:=jZ hel
      obtain⟨hone,o,ho,hc⟩:=h2
      obtain⟨hl,hQ⟩:=(hc _ _ _ _ hb).2 rfl
      cases o with
      |none=>
       cases(show md=_ from hQ)
       have hl0:l=[]:=hr.blk _ _ _ hb ho
       subst hl0
       simp only[List.length_nil,Nat.le_zero_eq,Nat.add_eq_zero_iff] at hl
       obtain⟨rfl,rfl⟩:=hl
       refine⟨X.h,by simp only[mclear,hu],X,.refl hr,?_,rfl⟩
       exact(z7 (by rw[hb];simp [kP])).symm
      |some p=>
       obtain⟨mm,ver⟩:=p
       cases(show md=_ from hQ)
       exact zhC hr (c:=c) (cells:=[]) (z:=x0) hu E.zo E.xc E.pos hb ho hl
     ·cases h
    ·cases h
   ·cases h
  ·cases h
 ·cases h
def smx(x y:SV)(mx:Bool):Option SV:=match x,y with
 |.a (.int .u8 _),_=>none
 |.a (.int k a),.a (.int _ b)=>some (.a (.int k (match mx with|true=>if b > a then b else a|false=>if b<a then b else a)))
 |_,_=>none
def zeH(P:Program)(b:Builtin)(ts:List TypeId)(args:List SV)(h:SH):zeY:=
 match b,ts,args with
 |.len,t::_,[x]=>zgU h ((zqA P t x h).map fun n=>.a (.int .i64 (n:Int)))
 |.append,[t,t2],[s,x]=>zg7 P t t2 s x h
 |.copy,[t,t2],[d,x]=>zoZ (zoH P t t2 d x h)
 |.max,_,[x,y]=>zgU h (smx x y true)
 |.min,_,[x,y]=>zgU h (smx x y false)
 |.delete,[t,_],[mp,k]=>match zel P t mp k h with
  |some h'=>one true (.tup []) h'
  |none=>[]
 |.clear,[t],[x]=>match zkP P t x h with
  |some h'=>one true (.tup []) h'
  |none=>[]
 |.unsafeSliceData,_,[.gs loc n]=>match h[loc]? with
  |some (.seq _ l k _)=>match Nat.beq k n with
   |true=>one (Nat.blt 0 l.length) (.zpd loc n) h
   |false=>[]
  |_=>[]
 |.unsafeSliceData,_,[.a .qj]=>one true (.a .zbf) h
 |.unsafeString,pt::_,[.a .zbf,.a (.int .i64 k)]=>match P.underlying pt with
  |some (.pointer _)=>one (decide (k=0)) (.a (.str [])) h
  |_=>[]
 |.unsafeString,pt::_,[.zpd loc n,.a (.int .i64 k)]=>match P.underlying pt,h[loc]? with
  |some (.pointer u),some (.seq .u8 l n' 0)=>match Nat.beq n' n&&(mkB (some u) (mkS n)&&Nat.beq (P.cellsOf u) 1) with
   |true=>one (decide (k=(l.length:Int))&&(Nat.blt 0 l.length&&Nat.blt l.length qw)) (.a (.str l)) (h.set loc .gone)
   |false=>[]
  |_,_=>[]
 |_,_,_=>[]
theorem zd6(hr:RH X){b:Builtin}{ts:List TypeId}{args:List SV}{xs:List AV}{q:SR}(ha:RVs X args xs)(h:Hit (zeH P b ts args X.sh) q):∃ rs,qh P b ts xs X.h=some rs/\SRR X q rs:=by
 unfold zeH at h
 split at h
 ·rename_i t ts' x
  obtain⟨v,hv,rfl⟩:=zal h
  obtain⟨a,_,rfl,h1,rfl⟩:=ha
  cases hs:zqA P t x X.sh with
  |none=>rw[hs] at hv;cases hv
  |some n=>
   rw[hs] at hv;cases hv
   exact⟨_,by simp only[qh,ziY hr h1 hs,rv],.same hr rfl⟩
 ·obtain⟨a,_,rfl,h1,b,_,rfl,h2,rfl⟩:=ha
  obtain⟨y,h',v,sh',h3,rfl,Y,h4,h5,h6,h7⟩:=zeG hr h1 h2 h
  exact⟨.val y h',by simp only[qh,h3,rvh],Y,h4,h5,h6,h7⟩
 ·obtain⟨a,_,rfl,h1,b,_,rfl,h2,rfl⟩:=ha
  obtain⟨v,sh',hc,rfl⟩:=zjM h
  obtain⟨y,h',h3,Y,h4,h5,h6,h7⟩:=zhb hr h1 h2 hc
  exact⟨.val y h',by simp only[qh,h3,rvh],Y,h4,h5,h6,h7⟩
 ·obtain⟨v,hv,rfl⟩:=zal h
  obtain⟨a,_,rfl,h1,b,_,rfl,h2,rfl⟩:=ha
  unfold smx at hv
  split at hv
  ·cases hv
  ·cases hv;cases(show a=_ from h1);cases(show b=_ from h2)
   exact⟨_,rfl,.same hr rfl⟩
  ·cases hv
 ·obtain⟨v,hv,rfl⟩:=zal h
  obtain⟨a,_,rfl,h1,b,_,rfl,h2,rfl⟩:=ha
  unfold smx at hv
  split at hv
  ·cases hv
  ·cases hv;cases(show a=_ from h1);cases(show b=_ from h2)
   exact⟨_,rfl,.same hr rfl⟩
  ·cases hv
 ·split at h
  ·rename_i h' hc
   obtain⟨_,rfl⟩:=qa h
   obtain⟨a,_,rfl,h1,b,_,rfl,h2,rfl⟩:=ha
   obtain⟨h3,h4,Y,h5,h6,h7⟩:=zdm hr h1 h2 hc
   exact⟨.val (.tup []) h3,by simp only[qh,h4],Y,h5,h6,h7,[],rfl,rfl⟩
  ·cases h
 ·split at h
  ·rename_i h' hc
   obtain⟨_,rfl⟩:=qa h
   obtain⟨a,_,rfl,h1,rfl⟩:=ha
   obtain⟨h2,h3,Y,h4,h5,h6⟩:=zfX hr h1 hc
   exact⟨.val (.tup []) h2,by simp only[qh,h3],Y,h4,h5,h6,[],rfl,rfl⟩
  ·cases h
 ·split at h
  ·rename_i u l k md hb
   split at h
   ·rename_i hk
    cases zb hk
    obtain⟨hg,rfl⟩:=qa h
    have hg:=qg hg
    obtain⟨x,_,rfl,h1,rfl⟩:=ha
    obtain⟨hone,o,ho,hc⟩:=h1
    have hQ:=(hc _ _ _ _ hb).2 rfl
    cases o with
    |none=>obtain⟨_,h0⟩:=hQ;omega
    |some p=>
     obtain⟨m,ver⟩:=p
     cases(show x=_ from hQ)
     refine⟨.val (.ptr m 0 ver (0+l.length*u.sz)) X.h,by simp only[qh];rw[if_pos hg],.same hr ⟨rfl,some (m,ver),ho,fun u2 l2 k2 md2 hb2=>?_⟩⟩
     rw[hb] at hb2;cases hb2
     exact⟨Nat.le_refl _,fun _=>⟨m,ver,rfl,by rw[Nat.zero_add]⟩⟩
   ·cases h
  ·cases h
 ·obtain⟨hg,rfl⟩:=qa h
  obtain⟨x,_,rfl,h1,rfl⟩:=ha
  cases(show x=_ from h1)
  exact⟨.val .zbf X.h,rfl,.same hr rfl⟩
 ·split at h
  ·rename_i hu
   obtain⟨hg,rfl⟩:=qa h
   obtain⟨x,_,rfl,h1,y,_,rfl,h2,rfl⟩:=ha
   cases(show x=_ from h1);cases(show y=_ from h2)
   exact⟨.val (.str []) X.h,by simp only[qh,hu];rw[if_pos (of_decide_eq_true hg)],.same hr rfl⟩
  ·cases h
 ·split at h
  ·rename_i u l n' hu hb
   split at h
   ·rename_i hc
    simp only[Bool.and_eq_true] at hc
    obtain⟨hk,hm,hcl⟩:=hc
    cases zb hk
    obtain⟨hg,rfl⟩:=qa h
    simp only[Bool.and_eq_true,decide_eq_true_eq] at hg
    obtain⟨rfl,hl0,hl9⟩:=hg
    have hl0:=qg hl0
    have hl9:=qg hl9
    obtain⟨x,_,rfl,h1,y,_,rfl,h2,rfl⟩:=ha
    cases(show y=_ from h2)
    obtain⟨hone,o,ho,hc⟩:=h1
    obtain⟨m,ver,rfl,rfl⟩:=(hc _ _ _ _ hb).2 rfl
    obtain⟨cells,minv,tt,q1,q2,q3,q4⟩:=hr.blk _ _ _ hb ho
    have hmk:∀ q:Option TypeId,mkB (some u) q=true->∀ t,q.or t=some u:=fun q hm t=>by
     cases q with
     |none=>cases hm
     |some b=>rw[<- zb (show Nat.beq u b=true from hm)];rfl
    rw[hmk _ hm] at q1
    have hmm:=hr.lt _ _ _ ho
    have hcs:cells.length=l.length:=by rw[q3.1];simp [U.sz]
    refine⟨.val (.str l) (X.h.set m (.row cells ver minv (max 0 l.length) false (some u))),?_,⟨X.h.set m (.row cells ver minv (max 0 l.length) false (some u)),X.Φ,X.σ,X.sh.set _ .gone⟩,?_,rfl,rfl,rfl⟩
    ·simp only[qh,hu,q1]
     rw[if_neg (by omega),if_pos ⟨trivial,trivial,zb hcl,by omega,by simp [qw] at hl9;omega,trivial⟩]
     have hrd:rd X.h m 0 ver (l.length*U.u8.sz) (l.length:Int).toNat=some cells:=by
      rw[zc2 q1 q2 _ _ _ (by simp [U.sz]),List.drop_zero,List.take_of_length_le (by rw[hcs];simp)]
     rw[hrd,q3.bytes]
     simp only[zaD]
     rfl
    ·exact Stp.turn hr hb ho (by simp) (fun m' hm' hne=>Arr.zk fun e=>hne ver (e ▸ rfl)) (fun _ _ _=>.inr rfl) (by show _<=(X.h.set _ _).length;rw[Arr.length_set];exact Nat.le_refl _) (fun m=>⟨.inl,fun h=>h.elim id fun h=>by cases h.1⟩) (z7 ho).symm rfl
      (fun _ _ e=>by cases e;exact⟨by show _<(X.h.set _ _).length;rw[Arr.length_set];exact hmm,.inl ⟨_,rfl⟩⟩) (fun m v e=>⟨v,e⟩)
      (fun u3 l3 k3 md3 e=>by cases e) (fun h=>absurd rfl h) (fun h=>h.elim (fun h=>by cases h) fun h=>by cases h) fun hle=>trivial
   ·cases h
  ·cases h
 ·cases h
def zgA(n:Int)(loc off lim z:Nat)(h:SH):Nat->Nat->zeY
 |0,_=>[]
 |k+1,j=>(decide (n=(j:Int)),.val (.ptr loc (off+j*z) lim) h)::zgA n loc off lim z h k (j+1)
theorem zcO{n:Int}{loc off lim z:Nat}{h:SH}{q:SR}:∀ (k j:Nat),Hit (zgA n loc off lim z h k j) q->∃ i:Nat,i<j+k/\n=(i:Int)/\q=.val (.ptr loc (off+i*z) lim) h
 |0,_,hh=>by cases hh
 |k+1,j,hh=>by
  rcases hh with⟨h1,h2⟩|⟨_,h2⟩
  ·exact⟨j,by omega,of_decide_eq_true h1,h2.symm⟩
  ·obtain⟨i,h3,h4⟩:=zcO k (j+1) h2
   exact⟨i,by omega,h4⟩
def zeN(P:Program)(t:TypeId)(v:SV):Option (Nat×Nat×Nat×Nat×Nat):=match v,P.underlying t with
 |.ptr loc off lim,some (.array len e)=>match wI P e,Nat.ble len 8 with
  |some z,true=>some (loc,off,lim,z,len)
  |_,_=>none
 |.csl loc off n sz,some (.slice _)=>match zdA P t sz&&Nat.ble n 8 with
  |true=>some (loc,off,off+n*sz,sz,n)
  |false=>none
 |_,_=>none
theorem zeO{P:Program}{t:TypeId}{v:SV}{loc off lim z len:Nat}(hs:zeN P t v=some (loc,off,lim,z,len)):(v=.ptr loc off lim/\∃ e,P.underlying t=some (.array len e)/\wI P e=some z)\/(v=.csl loc off len z/\lim=off+len*z/\zdA P t z=true):=by
 unfold zeN at hs
 split at hs
 ·rename_i e hu
  split at hs
  ·rename_i z' hz hb;cases hs;exact .inl ⟨rfl,e,hu,hz⟩
  ·cases hs
 ·split at hs
  ·rename_i hb
   rw[Bool.and_eq_true] at hb
   cases hs;exact .inr ⟨rfl,rfl,hb.1⟩
  ·cases hs
 ·cases hs
def sop(P:Program)(gl:GL)(e:Operand->Option SV)(h:SH)(op:Op):zeY:=
 match op with
 |.move x=>zgU h (e x)
 |.assign x=>zgU h (e x)
 |.pick c a b=>match e c,e a,e b with
  |some (.a (.bool c)),some x,some y=>zoL c x y h
  |_,_,_=>[]
 |.alloc t=>zoZ (zkM P t h)
 |.box t x=>match e x with
  |some v=>match znk none v h with
   |some (w,h')=>one true w h'
   |none=>[]
  |none=>[]
 |.build t parts=>match zda e parts.toList with
  |some ps=>zgU h (zkO P t ps)
  |none=>[]
 |.buildSlice t len parts=>match zda e parts.toList with
  |some ps=>zoZ (zaA P t len ps h)
  |none=>[]
 |.load t x=>match e x with
  |some p=>zgU h (zhg P gl h t p)
  |none=>[]
 |.store t a x=>match e a,e x,wI P t with
  |some p,some v,some n=>match Nat.beq v.cells.length n,v.whole with
   |true,true=>zqp (zez h v.cells p)
   |_,_=>[]
  |_,_,_=>[]
 |.nilCheck x=>match e x with
  |some v=>match zoo v with
   |true=>one true v h
   |false=>[]
  |none=>[]
 |.binOp op t x y _=>match e x,e y with
  |some a,some b=>zoY h (zqy P op t x y a b)
  |_,_=>[]
 |.unOp u _ x=>match e x with
  |some v=>zgU h (sun u v)
  |none=>[]
 |.convert s d x=>match e x with
  |some v=>zoZ (zmo P s d v h)
  |none=>[]
 |.makeInterface t x=>match e x,isIface P t with
  |some v,false=>one true (.ifc t v) h
  |_,_=>[]
 |.makeFunc (.func f) first cap=>match zlF e first.toList,zlF e cap.toList with
  |some a,some b=>one true (.fn f a b) h
  |_,_=>[]
 |.makeMap _ none=>one true (.map h.length) (h++[.map [] [] 0])
 |.range t x=>match e x with
  |some v=>match zk5 P t v h with
   |some (w,h')=>one true w h'
   |none=>[]
  |none=>[]
 |.next x false=>match e x with
  |some v=>match zoI v h with
   |some (w,h')=>one true w h'
   |none=>[]
  |none=>[]
 |.entry x=>match e x with
  |some v=>zgU h (zkQ v h)
  |none=>[]
 |.makeSlice t l c=>match e l,e c with
  |some a,some b=>zoZ (zbF P t a b h)
  |_,_=>[]
 |.slice t x lo hi mx=>match e x,zbU e lo,zbU e hi,zbU e mx with
  |some v,some a,some b,some c=>zoY h (zh3 P t v a b c h)
  |_,_,_,_=>[]
 |.fieldAddr s x f=>match e x with
  |some v=>zgU h (xF P s v f h)
  |none=>[]
 |.field t x f=>match e x with
  |some v=>zgU h (zkS P t v f)
  |none=>[]
 |.indexAddr t x i=>match e x,e i with
  |some a,some b=>match znr b with
   |some n=>match zeK P gl t a n with
    |some r=>zoY h (some r)
    |none=>match zeN P t a with
     |some (loc,off,lim,z,len)=>zgA n loc off lim z h len 0
     |none=>zoY h (j7 P t a n h)
   |none=>[]
  |_,_=>[]
 |.index t x i=>match e x,e i with
  |some a,some b=>match znr b with
   |some n=>zoY h (zkZ P t a n)
   |none=>[]
  |_,_=>[]
 |.lookup t mp k ok=>match e mp,e k with
  |some a,some b=>zhi P t a b ok h
  |_,_=>[]
 |.mapUpdate t mp k v=>match e mp,e k,e v with
  |some a,some b,some c=>zqB P t a b c h
  |_,_,_=>[]
 |.insert t mp k v=>match e mp,e k,e v with
  |some a,some b,some c=>zqB P t a b c h
  |_,_,_=>[]
 |.typeAssert x _ t true=>match e x with
  |some v=>zgU h (zg8 P t v)
  |none=>[]
 |.extract x i=>match e x with
  |some (.tup l)=>zgU h l[i]?
  |_=>[]
 |.call c=>match c.callee,zlF e c.args.toList with
  |.value f,some args=>match e f with
   |some (.fn f first cap)=>[(true,.call (.inl f) (first++args++cap))]
   |some (.yld loc)=>[(true,.call (.inr loc) args)]
   |_=>[]
  |.builtin b,some args=>zeH P b c.argTypes.toList args h
  |_,_=>[]
 |.defer c=>match c.callee,zlF e c.args.toList with
  |.value f,some args=>match e f with
   |some (.fn f first cap)=>[(true,.dfr f (first++args) cap)]
   |_=>[]
  |_,_=>[]
 |_=>[]
theorem zc8(hr:RH X)(hg:RGl P gl X)(he:EvR X e m){op:Op}{q:SR}(h:Hit (sop P gl e X.sh op) q):∃ rs,mop P m X.h op=some rs/\SRR X q rs:=by
 unfold sop at h
 split at h
 ·obtain⟨v,h1,rfl⟩:=zal h;exact ziz hr he h1
 ·obtain⟨v,h1,rfl⟩:=zal h;exact ze2 hr he h1
 ·split at h
  ·rename_i h1 h2 h3;exact ziH hr he h1 h2 h3 h
  ·cases h
 ·obtain⟨v,sh',h1,rfl⟩:=zjM h;exact zgf hr h1
 ·split at h
  ·rename_i v h1
   split at h
   ·rename_i w h' h2;obtain⟨_,rfl⟩:=qa h;exact zjs hr he h1 h2
   ·cases h
  ·cases h
 ·split at h
  ·rename_i ps h1;obtain⟨v,h2,rfl⟩:=zal h;exact zgj hr he h1 h2
  ·cases h
 ·split at h
  ·rename_i ps h1;obtain⟨v,sh',h2,rfl⟩:=zjM h;exact zb6 hr he h1 h2
  ·cases h
 ·split at h
  ·rename_i p h1;obtain⟨v,h2,rfl⟩:=zal h;exact ziu hr hg he h1 h2
  ·cases h
 ·split at h
  ·rename_i p v n h1 h2 h3
   split at h
   ·rename_i h4 h5
    obtain⟨sh',h6,rfl⟩:=zqM h
    obtain⟨xp,q1,q2⟩:=he _ _ h1
    obtain⟨xv,q3,q4⟩:=he _ _ h2
    have hc:=q4.zdf h5
    obtain⟨loc,off,ver,lim,h',rfl,q5,Y,q6,q7,q8⟩:=zdr hr q2 hc h6
    refine⟨.unit h',?_,Y,q6,q7,q8⟩
    simp only[mop,q1,q3,h3]
    rw[if_pos (by rw[hc.length];exact zb h4),q5];rfl
   ·cases h
  ·cases h
 ·split at h
  ·rename_i v h1
   split at h
   ·rename_i h2;obtain⟨_,rfl⟩:=qa h;exact zdq hr he h1 h2
   ·cases h
  ·cases h
 ·split at h
  ·rename_i a b h1 h2;obtain⟨v,h3,rfl⟩:=zik h;exact zjq hr he h1 h2 h3
  ·cases h
 ·split at h
  ·rename_i v h1;obtain⟨v,h2,rfl⟩:=zal h;exact zmR hr he h1 h2
  ·cases h
 ·split at h
  ·rename_i v h1;obtain⟨v,sh',h2,rfl⟩:=zjM h;exact zd8 hr he h1 h2
  ·cases h
 ·split at h
  ·rename_i v h1 h2;obtain⟨_,rfl⟩:=qa h;exact zaq hr he h1 h2
  ·cases h
 ·split at h
  ·rename_i a b h1 h2;obtain⟨_,rfl⟩:=qa h;exact zdo hr he h1 h2
  ·cases h
 ·obtain⟨_,rfl⟩:=qa h;exact zeq hr
 ·split at h
  ·rename_i v h1
   split at h
   ·rename_i h2;obtain⟨_,rfl⟩:=qa h;exact zgX hr he h1 h2
   ·cases h
  ·cases h
 ·split at h
  ·rename_i v h1
   split at h
   ·rename_i h2;obtain⟨_,rfl⟩:=qa h;exact ziE hr he h1 h2
   ·cases h
  ·cases h
 ·split at h
  ·rename_i v h1;obtain⟨v,h2,rfl⟩:=zal h;exact zgo hr he h1 h2
  ·cases h
 ·split at h
  ·rename_i a b h1 h2;obtain⟨v,sh',h3,rfl⟩:=zjM h;exact zcV hr he h1 h2 h3
  ·cases h
 ·split at h
  ·rename_i v a b c h1 h2 h3 h4;obtain⟨v,h5,rfl⟩:=zik h;exact zhf hr he h1 h2 h3 h4 h5
  ·cases h
 ·split at h
  ·rename_i v h1;obtain⟨v,h2,rfl⟩:=zal h;exact zcJ hr he h1 h2
  ·cases h
 ·split at h
  ·rename_i v h1;obtain⟨v,h2,rfl⟩:=zal h;exact zgp hr he h1 h2
  ·cases h
 ·split at h
  ·rename_i a b h1 h2
   split at h
   ·rename_i n h3
    split at h
    ·rename_i r hr2;obtain⟨v,h4,rfl⟩:=zik h;exact zb7 hr hg he h1 h2 h3 (hr2.trans h4)
    ·split at h
     ·rename_i loc off lim z len hsm
      obtain⟨i,hi,e1,rfl⟩:=zcO _ _ h
      have hin:inb (i:Int) len=true:=by simp [inb];omega
      rcases zeO hsm with⟨rfl,el,hu,hz⟩|⟨rfl,rfl,hz⟩
      ·subst e1
       refine wx hr he h1 h2 h3 ?_
       simp only[j7,hu,hz,hin,Int.toNat_natCast]
      ·subst e1
       refine wx hr he h1 h2 h3 ?_
       simp only[j7,hz,hin,Int.toNat_natCast]
     ·obtain⟨v,h4,rfl⟩:=zik h;exact wx hr he h1 h2 h3 h4
   ·cases h
  ·cases h
 ·split at h
  ·rename_i a b h1 h2
   split at h
   ·rename_i n h3;obtain⟨v,h4,rfl⟩:=zik h;exact zgC hr he h1 h2 h3 h4
   ·cases h
  ·cases h
 ·split at h
  ·rename_i a b h1 h2;exact zfo hr he h1 h2 h
  ·cases h
 ·split at h
  ·rename_i a b c h1 h2 h3
   obtain⟨xa,q1,q2⟩:=he _ _ h1
   obtain⟨xb,q3,q4⟩:=he _ _ h2
   obtain⟨xc,q5,q6⟩:=he _ _ h3
   obtain⟨h',sh',q7,rfl,Y,q8,q9,q10⟩:=zdV hr q2 q4 q6 h
   exact⟨.unit h',by simp only[mop,q1,q3,q5,q7,ru],Y,q8,q9,q10⟩
  ·cases h
 ·split at h
  ·rename_i a b c h1 h2 h3
   obtain⟨xa,q1,q2⟩:=he _ _ h1
   obtain⟨xb,q3,q4⟩:=he _ _ h2
   obtain⟨xc,q5,q6⟩:=he _ _ h3
   obtain⟨h',sh',q7,rfl,Y,q8,q9,q10⟩:=zdV hr q2 q4 q6 h
   exact⟨.unit h',by simp only[mop,q1,q3,q5,q7,ru],Y,q8,q9,q10⟩
  ·cases h
 ·split at h
  ·rename_i v h1;obtain⟨v,h2,rfl⟩:=zal h;exact ze1 hr he h1 h2
  ·cases h
 ·split at h
  ·rename_i l h1;obtain⟨v,h2,rfl⟩:=zal h;exact zed hr he h1 h2
  ·cases h
 ·split at h
  ·rename_i f args h1 h2
   obtain⟨xs,q1,q2⟩:=j6 he h2
   split at h
   ·rename_i f' first cap h3
    obtain⟨xf,q3,a',b',rfl,q4,q5⟩:=he _ _ h3
    rcases h with⟨_,rfl⟩|⟨h,_⟩
    ·exact⟨.call (.f f') (a'++xs++b'),by simp only[mop,h1,q1,q3],rfl,(q4.append q2).append q5⟩
    ·cases h
   ·rename_i loc h3
    obtain⟨xf,q3,mm,q4,rfl⟩:=he _ _ h3
    rcases h with⟨_,rfl⟩|⟨h,_⟩
    ·exact⟨.call (.y mm) xs,by simp only[mop,h1,q1,q3],q4,q2⟩
    ·cases h
   ·cases h
  ·rename_i b args h1 h2
   obtain⟨xs,q1,q2⟩:=j6 he h2
   obtain⟨rs,q3,q4⟩:=zd6 hr q2 h
   exact⟨rs,by simp only[mop,h1,q1,q3],q4⟩
  ·cases h
 ·split at h
  ·rename_i f args h1 h2
   obtain⟨xs,q1,q2⟩:=j6 he h2
   split at h
   ·rename_i f' first cap h3
    obtain⟨xf,q3,a',b',rfl,q4,q5⟩:=he _ _ h3
    rcases h with⟨_,rfl⟩|⟨h,_⟩
    ·exact⟨.dfr f' (a'++xs) b',by simp only[mop,h1,q1,q3],rfl,q4.append q2,q5⟩
    ·cases h
   ·cases h
  ·cases h
 ·cases h
end
end Go.Sx
namespace Go.Sx
open Go Go.Gx Go.Mx
variable [qE]
structure SS where
 env:List SV
 h:SH
inductive SX where
 |normal|ret|exit (id:Nat)|panic (v:SV)
inductive SC where
 |ret (v:SV) (h:SH)|pan (v:SV) (h:SH)
abbrev CF:=(R:Type)->List SV->SH->(SC->Option R)->Option R
abbrev CT:=FuncId->Option CF
abbrev LF:=(R:Type)->SS->(SX->SS->Option R)->Option R
inductive Pl:Type 1 where
 |auto
 |two (a b:Pl)
 |one (a:Pl)
 |cal (i:Nat) (f:FuncId) (a rest:Pl)
 |by_ (g:LF)
 |yl (i id:Nat) (a b rest:Pl)
def Pl.l:Pl->Pl
 |.two a _=>a
 |_=>.auto
def Pl.r:Pl->Pl
 |.two _ b=>b
 |_=>.auto
def Pl.i:Pl->Pl
 |.one a=>a
 |_=>.auto
def Pl.f:Pl->Pl
 |.one a=>a
 |.two a _=>a
 |_=>.auto
def Pl.nx:Pl->Pl
 |.two _ b=>b
 |p=>p
def Pl.y:Pl->Nat->Nat->Pl×Pl
 |.cal _ _ _ rest,i,id=>rest.y i id
 |.yl j d a b rest,i,id=>match Nat.beq j i,Nat.beq d id with
  |true,true=>(a,b)
  |_,_=>rest.y i id
 |_,_,_=>(.auto,.auto)
def Pl.at:Pl->Nat->FuncId->Pl
 |.yl _ _ _ _ rest,i,f=>rest.at i f
 |.cal j g a rest,i,f=>match Nat.beq j i,Nat.beq g f with
  |true,true=>a
  |_,_=>rest.at i f
 |_,_,_=>.auto
def jH(env:List SV)(d:Option Nat)(v:SV):Option (List SV):=match d with
 |some d=>match zmr env d with
  |some _=>some (sset env d v)
  |none=>none
 |none=>some env
def alts{R:Type}(k:SR->Option R):zeY->Option R
 | []=>none
 |(g,r)::l=>cond g (k r) (alts k l)
def zoN(P:Program)(gl:GL)(env:List SV)(h:SH):List ResultVar->Option (List SV)
 | []=>some []
 |.tmp t::l=>match zmr env t,zoN P gl env h l with
  |some v,some vs=>some (v::vs)
  |_,_=>none
 |.cell a T::l=>match zmr env a,zoN P gl env h l with
  |some p,some vs=>match zhg P gl h T p with
   |some v=>some (v::vs)
   |none=>none
  |_,_=>none
def zop:List SV->SV
 | [v]=>v
 |vs=>.tup vs
def zqL(ops:Array Oper)(env:List SV)(j:Nat):Option (Nat×Bool):=match ops[j]? with
 |some o=>match o.dst with
  |some t=>match zmr env t with
   |some (.a (.bool b))=>some (t,b)
   |_=>none
  |none=>none
 |none=>none
def zfi:Option SV->Bool
 |some (.tup _)=>true
 |_=>false
def zii(ops:List Oper)(env:List SV)(j:Nat):Bool:=match ops[j]? with
 |some o=>match o.dst with
  |some t=>zfi (zmr env t)
  |none=>false
 |none=>false
def zjG:Op->Bool
 |.move _|.assign _|.pick .. | .build .. | .nilCheck _|.binOp .. | .unOp .. | .makeInterface .. | .fieldAddr .. | .field .. | .indexAddr .. | .index .. | .extract ..=>true
 |.makeFunc (.func _) _ _=>true
 |_=>false
def zQ(P:Program):List Oper->Nat->Nat
 | [],_=>0
 |o::l,i=>match kindOf P o.op with
  |.act=>(1 <<< i) ||| zQ P l (i+1)
  |_=>zQ P l (i+1)
def qP(P:Program):List Oper->Nat->Nat
 | [],_=>0
 |o::l,i=>match kindOf P o.op with
  |.hole _=>(1 <<< i) ||| qP P l (i+1)
  |_=>qP P l (i+1)
def zbI(i:Nat):List (Option Nat×Nat)->Nat->Nat
 | [],_=>0
 |(_,m)::I,k=>match bit m i with
  |true=>(1 <<< k) ||| zbI i I (k+1)
  |false=>zbI i I (k+1)
def zoQ(a b:Nat):Bool:=Nat.beq (a &&& b) a
def okT(i b t:Nat):List (Option Nat×Nat)->Nat->Bool
 | [],_=>true
 |(some d,m)::I,k=>match Nat.beq d t with
  |true=>(bit b k||bit m i)&&okT i b t I (k+1)
  |false=>okT i b t I (k+1)
 |(none,_)::I,k=>okT i b t I (k+1)
def zhZ(gl:GL)(I:List (Option Nat×Nat))(env:List SV)(i b:Nat):Operand->Option SV
 |.tmp t=>match okT i b t I 0 with
  |true=>zmr env t
  |false=>none
 |o=>sev gl env o
def okK(I:List (Option Nat×Nat))(am hm D i b:Nat):Bool:=
 zoQ b D&&(!bit D i&&(Nat.blt b (1 <<< i)&&match bit am i with
  |true=>zoQ (D &&& am) b&&Nat.beq (D &&& am) (am &&& ((1 <<< i)-1))
  |false=>match bit hm i with
   |true=>zoQ am (D ||| zbI i I 0)
   |false=>zoQ (D &&& am) b))
def zoi(I:List (Option Nat×Nat))(am hm D:Nat)(a:Bool):List (Option Nat×Nat)->Nat->Option Nat
 | [],_=>none
 |(_,b)::l,i=>match okK I am hm D i b&&(a||!bit am i) with
  |true=>some i
  |false=>zoi I am hm D a l (i+1)
def zks(I:List (Option Nat×Nat))(am hm:Nat):Nat->Nat->List Nat
 |0,_=>[]
 |n+1,D=>match zoi I am hm D false I 0 with
  |some i=>i::zks I am hm n (D ||| (1 <<< i))
  |none=>match zoi I am hm D true I 0 with
   |some i=>i::zks I am hm n (D ||| (1 <<< i))
   |none=>[]
def znT(l:List Oper)(env:List SV)(j:Nat):Option (Nat×Bool):=match l[j]? with
 |some o=>match o.dst with
  |some t=>match zmr env t with
   |some (.a (.bool b))=>some (t,b)
   |_=>none
  |none=>none
 |none=>none
def znS:SV->Bool
 |.a (.int _ _)=>true
 |.a (.str _)=>true
 |.a .qj=>true
 |.u8 _=>true
 |.isl _ _=>true
 |.cl _ _=>true
 |.ul _ _=>true
 |.nsl _ _=>true
 |_=>false
def zro:SV->Bool
 |.a (.int _ _)=>true
 |.a (.str _)=>true
 |.u8 _=>true
 |_=>false
def znR(h:SH)(v:SV):Bool:=znS v||match v with
 |.gs loc n=>match h[loc]? with
  |some (.seq _ _ k _)=>Nat.beq k n
  |_=>false
 |.sl loc n _ _ _=>match h[loc]? with
  |some (.seq _ _ k _)=>Nat.beq k n
  |_=>false
 |_=>false
def zqx(h:SH)(e:Operand->Option SV)(op:Op):Option (Option Nat):=match zjG op with
 |true=>some none
 |false=>match op with
  |.load _ x=>match e x with
   |some (.ptr loc _ _)=>some (some loc)
   |some (.zea loc _ _ _)=>some (some loc)
   |some (.zcP _ _ _)=>some none
   |some (.zdD _ _ _)=>some none
   |_=>none
  |.slice _ x _ _ _=>match e x with
   |some v=>match znS v with
    |true=>some none
    |false=>none
   |none=>none
  |.convert _ _ x=>match e x with
   |some v=>match zro v with
    |true=>some none
    |false=>none
   |none=>none
  |.call c=>match c.callee,zlF e c.args.toList with
   |.builtin .len,some [v]=>match znR h v with
    |true=>some none
    |false=>none
   |_,_=>none
  |_=>none
def SB.xR:SB->Nat->SB
 |.cells l _ mk,m=>.cells l m mk
 |.seq u l k _,m=>.seq u l k m
 |.map ks vs _,m=>.map ks vs m
 |.kv u v l _,m=>.kv u v l m
 |.loop env id _,m=>.loop env id m
 |.zbm k v it _,m=>.zbm k v it m
 |.mit l s _,m=>.mit l s m
 |.gone,_=>.gone
def zbN(loc:Nat):List (Nat×Nat)->Bool
 | []=>false
 |p::l=>Nat.beq p.2 loc||zbN loc l
def zh1(h:SH)(i loc:Nat)(sl:List (Nat×Nat)):Option (SH×List (Nat×Nat)):=match h[loc]? with
 |some b=>match b.md with
  |0=>some (h.set loc (b.xR 1),(i,loc)::sl)
  |_=>match zbN loc sl with
   |true=>some (h,(i,loc)::sl)
   |false=>some (h,sl)
 |none=>none
def j0(m:Nat):List (Nat×Nat)->List (Nat×Nat)
 | []=>[]
 |p::l=>match bit m p.1 with
  |true=>j0 m l
  |false=>p::j0 m l
def zko(h:SH)(loc:Nat):SH:=match h[loc]? with
 |some b=>match b.md with
  |1=>h.set loc (b.xR 0)
  |_=>h
 |none=>h
def xj(kept:List (Nat×Nat)):List (Nat×Nat)->SH->SH
 | [],h=>h
 |p::l,h=>match zbN p.2 kept with
  |true=>xj kept l h
  |false=>xj kept l (zko h p.2)
def qI:SH->SH->SH
 | [],[]=>[]
 | [],b::h=>(match b.md with|1=>b.xR 0|_=>b)::qI [] h
 |b0::h0,b::h=>(match b0.md,b.md with|0,1=>b.xR 0|_,_=>b)::qI h0 h
 |_::_,[]=>[]
def zfP(I:List (Option Nat×Nat))(am i b:Nat):Bool:=!(zoQ (am &&& ((1 <<< i)-1)) b&&zoQ am (b ||| zbI i I 0))
section
variable (P:Program) (gl:GL) (ct:CT) {R:Type}
mutual
def ke:Nat->Pl->Code->SS->(SX->SS->Option R)->Option R
 |0,_,_,_,_=>none
 |n+1,pl,c,st,K=>match c with
  |.skip=>K .normal st
  |.label _=>K .normal st
  |.ret=>K .ret st
  |.exit id=>K (.exit id) st
  |.seq a b=>ke n pl.l a st fun e st'=>match e with
   |.normal=>ke n pl.r b st' K
   |e=>K e st'
  |.cond c a b=>match sev gl st.env c with
   |some (.a (.bool t))=>cond t (ke n pl.l a st K) (ke n pl.r b st K)
   |_=>none
  |.block id c=>ke n pl.i c st fun e st'=>match e with
   |.exit i=>match Nat.beq i id with
    |true=>K .normal st'
    |false=>K (.exit i) st'
   |e=>K e st'
  |.loop c=>match pl with
   |.by_ g=>g R st K
   |pl=>ke n pl.f c st fun e st'=>match e with
    |.normal=>ke n pl.nx (.loop c) st' K
    |e=>K e st'
  |.rangeFunc _ _ _ _=>match pl with
   |.by_ g=>g R st K
   |_=>none
  |.region _ ops false=>zf0 n pl ops 0 ops.toList st K
  |.region _ ops true=>match pl with
   |.by_ g=>g R st K
   |pl=>match(zcE ops.toList&&zah (infos ops.toList []))&&zcB P ops.toList (infos ops.toList []) 0 0,qM P ops.toList with
    |true,some _=>sdr n pl ops.toList (infos ops.toList []) (zQ P ops.toList 0) (qP P ops.toList 0) 0 [] (zks (infos ops.toList []) (zQ P ops.toList 0) (qP P ops.toList 0) ops.toList.length 0) st fun st'=>K .normal ⟨st'.env,qI st.h st'.h⟩
    |_,_=>none
  |_=>none
def sdr:Nat->Pl->List Oper->List (Option Nat×Nat)->Nat->Nat->Nat->List (Nat×Nat)->List Nat->SS->(SS->Option R)->Option R
 |0,_,_,_,_,_,_,_,_,_,_=>none
 |n+1,pl,l,I,am,hm,D,sl,p,st,K=>match p with
  | []=>match Nat.beq D ((1 <<< l.length)-1) with
   |true=>K st
   |false=>none
  |i::p=>match l[i]?,I[i]? with
   |some o,some (_,b)=>match okK I am hm D i b with
    |false=>none
    |true=>
     let fin:=fun(sl:List (Nat×Nat)) (env:List SV) (v:SV) (h:SH)=>match jH env o.dst v with
      |some env=>sdr n pl l I am hm (D ||| (1 <<< i)) sl p ⟨env,h⟩ K
      |none=>none
     let go:=fun(st:SS)=>match kindOf P o.op with
      |.hole t=>match zdb P t with
       |some z=>match znk (zoe P t) z st.h with
        |some (v,h)=>fin sl st.env v h
        |none=>none
       |none=>none
      |.quiet=>alts (fun r=>match r with
       |.val v h=>match zfP I am i b with
        |false=>fin sl st.env v h
        |true=>match zqx st.h (zhZ gl I st.env i b) o.op with
         |some none=>fin sl st.env v h
         |some (some loc)=>match zh1 h i loc sl with
          |some (h,sl)=>fin sl st.env v h
          |none=>none
         |none=>none
       |_=>none) (sop P gl (zhZ gl I st.env i b) st.h o.op)
      |.act=>alts (fun r=>match r with
       |.val v h=>fin (j0 b sl) st.env v h
       |.unit h=>fin (j0 b sl) st.env (.tup []) h
       |.dfr f args cap=>none
       |.call (.inl f) args=>zaB n (pl.at i f) f args (xj (j0 b sl) sl st.h) fun r=>match r with
        |.ret v h=>fin (j0 b sl) st.env v h
        |.pan v h=>none
       |.call (.inr _) _=>none) (sop P gl (zhZ gl I st.env i b) (xj (j0 b sl) sl st.h) o.op)
     match o.guard with
     |none=>go st
     |some (j,w)=>match bit b j,bit hm i with
      |true,false=>match znT l st.env j with
       |some (t,c)=>cond c
        (match w with|true=>go ⟨sset st.env t (.a (.bool true)),st.h⟩|false=>fin sl (sset st.env t (.a (.bool true))) (.tup []) st.h)
        (match w with|true=>fin sl (sset st.env t (.a (.bool false))) (.tup []) st.h|false=>go ⟨sset st.env t (.a (.bool false)),st.h⟩)
       |none=>match zii l st.env j with
        |true=>fin sl st.env (.tup []) st.h
        |false=>none
      |_,_=>none
   |_,_=>none
def zf0:Nat->Pl->Array Oper->Nat->List Oper->SS->(SX->SS->Option R)->Option R
 |0,_,_,_,_,_,_=>none
 |n+1,pl,ops,i,l,st,K=>match l with
  | []=>K .normal st
  |o::l=>
   let go:=fun(st:SS)=>match zbz o.op with
    |some x=>match sev gl st.env x with
     |some (.ifc t v)=>K (.panic (.ifc t v)) st
     |_=>none
    |none=>alts (fun r=>match r with
     |.val v h=>match jH st.env o.dst v with
      |some env=>zf0 n pl ops (i+1) l ⟨env,h⟩ K
      |none=>none
     |.unit h=>match jH st.env o.dst (.tup []) with
      |some env=>zf0 n pl ops (i+1) l ⟨env,h⟩ K
      |none=>none
     |.dfr f args cap=>none
     |.call (.inl f) args=>zaB n (pl.at i f) f args st.h fun r=>match r with
      |.ret v h=>match jH st.env o.dst v with
       |some env=>zf0 n pl ops (i+1) l ⟨env,h⟩ K
       |none=>none
      |.pan v h=>K (.panic v) ⟨st.env,h⟩
     |.call (.inr loc) args=>match st.h[loc]? with
      |some (.loop env id 0)=>match qE.at_ id with
       |some (ps,asg,body)=>match Nat.beq args.length ps.size with
        |true=>ke n (pl.y i id).1 asg ⟨(ps.toList.zip args).foldl (fun e p=>e.set p.1 p.2) env,st.h.set loc .gone⟩ fun e st1=>match e with
         |.normal=>ke n (pl.y i id).2 body st1 fun e st2=>match e with
          |.normal=>match jH st.env o.dst (.a (.bool true)) with
           |some env1=>zf0 n pl ops (i+1) l ⟨env1,st2.h.set loc (.loop env id 0)⟩ K
           |none=>none
          |_=>none
         |_=>none
        |false=>none
       |none=>none
      |_=>none) (sop P gl (sev gl st.env) st.h o.op)
   let off:=fun(st:SS)=>match jH st.env o.dst (.tup []) with
    |some env=>zf0 n pl ops (i+1) l ⟨env,st.h⟩ K
    |none=>none
   match o.guard with
   |none=>go st
   |some (j,w)=>match zqL ops st.env j with
    |some (t,b)=>cond b
     (match w with|true=>go ⟨sset st.env t (.a (.bool true)),st.h⟩|false=>off ⟨sset st.env t (.a (.bool true)),st.h⟩)
     (match w with|true=>off ⟨sset st.env t (.a (.bool false)),st.h⟩|false=>go ⟨sset st.env t (.a (.bool false)),st.h⟩)
    |none=>match zii ops.toList st.env j with
     |true=>off st
     |false=>none
def zaB:Nat->Pl->FuncId->List SV->SH->(SC->Option R)->Option R
 |0,_,_,_,_,_=>none
 |n+1,pl,f,args,h,κ=>match ct f with
  |some g=>g R args h κ
  |none=>match P.funcs[f]? with
   |some fn=>match fn.body with
    |some c=>match Nat.ble args.length fn.ntmps with
     |true=>ke n pl c ⟨args++List.replicate (fn.ntmps-args.length) (.tup []),h⟩ fun e st=>match e with
      |.panic v=>κ (.pan v st.h)
      |.exit _=>none
      |_=>match zoN P gl st.env st.h fn.results.toList with
       |some vs=>κ (.ret (zop vs) st.h)
       |none=>none
     |false=>none
    |none=>none
   |none=>none
end
end
structure Dk(k:Nat×Option Nat)(X:Gst)(dl:List Dfd)(rnd:Option Nat):Prop where
 base:k.1<=X.h.length
 nd:dl.Nodup
 dl:∀ d ∈ dl,∃ m,d=.mark m/\k.1<=m/\X.h[m]?=some .dfr/\Kp X m/\∀ (i v:Nat),X.σ[i]? ≠ some (some (m,v))
 rnd:rnd=k.2
 lo:∀ m,k.2=some m->(∃ e ps a b s p,X.h[m]?=some (.loop e ps a b s p))/\Kp X m
theorem Dk.step{k:Nat×Option Nat}{X Y:Gst}(hr:RH X)(S:Stp X Y){dl:List Dfd}{rnd:Option Nat}(h:Dk k X dl rnd):Dk k Y dl rnd:=
 ⟨Nat.le_trans h.base S.fm.len,h.nd,fun d hd=>let⟨m,h1,h2,h3,h4,h5⟩:=h.dl d hd;let⟨q1,q2⟩:=h4.step hr.len S;⟨m,h1,h2,q2.trans h3,q1,fun i v e=>let⟨v',e'⟩:=S.fm.new i m v e h4.lt;h5 i v' e'⟩,h.rnd,fun m hm=>let⟨⟨e,ps,a,b,s,p,h1⟩,h2⟩:=h.lo m hm;let⟨q1,q2⟩:=h2.step hr.len S;⟨⟨e,ps,a,b,s,p,q2.trans h1⟩,q1⟩⟩
theorem Dk.none{X:Gst}:Dk (X.h.length,Option.none) X [] Option.none:=⟨Nat.le_refl _,List.nodup_nil,fun _ h=>(nomatch h),rfl,fun _ h=>(nomatch h)⟩
structure StR(k:Nat×Option Nat)(X:Gst)(st:SS)(ms:St):Prop where
 env:RVs X st.env ms.env.toL
 sh:X.sh=st.h
 h:X.h=ms.h
 dk:Dk k X ms.dl ms.rnd
def ExR(X:Gst):SX->Ex->Prop
 |.normal,.normal=>True
 |.ret,.ret=>True
 |.exit i,.exit j=>i=j
 |.panic v,.panic x=>RV X v x
 |_,_=>False
def CRR(X:Gst):SC->CR->Prop
 |.ret v sh,.ret x h=>X.sh=sh/\X.h=h/\RV X v x
 |.pan v sh,.pan x h=>X.sh=sh/\X.h=h/\RV X v x
 |_,_=>False
def Ev(p:Nat->Prop):Prop:=∃ n0,∀ n,n0<=n->p n
theorem Ev.mono{p q:Nat->Prop}(h:Ev p)(k:∀ n,p n->q n):Ev q:=let⟨n0,h0⟩:=h;⟨n0,fun n hn=>k n (h0 n hn)⟩
theorem Ev.and{p q:Nat->Prop}(h:Ev p)(k:Ev q):Ev fun n=>p n/\q n:=let⟨a,ha⟩:=h;let⟨b,hb⟩:=k;⟨max a b,fun n hn=>⟨ha n (by omega),hb n (by omega)⟩⟩
theorem Ev.succ{p:Nat->Prop}(h:Ev fun n=>p (n+1)):Ev p:=let⟨a,ha⟩:=h;⟨a+1,fun n hn=>by obtain⟨k,rfl⟩:∃ k,n=k+1:=⟨n-1,by omega⟩;exact ha k (by omega)⟩
theorem Ev.all{p:Nat->Prop}(h:∀ n,p n):Ev p:=⟨0,fun n _=>h n⟩
section
variable (P:Program) (gl:GL) (ct:CT) (hk:qc)
def zjb(c:Code)(f:LF):Prop:=∀ (k:Nat×Option Nat) (R:Type) (st:SS) (K:SX->SS->Option R) (r:R) (X:Gst) (ms:St),f R st K=some r->StR k X st ms->RH X->RGl P gl X ->
 ∃ e st' Y me ms',K e st'=some r/\Stp X Y/\StR k Y st' ms'/\ExR Y e me/\Ev fun n=>qQ P hk n c ms=some (me,ms')
def zd2(f:FuncId)(g:CF):Prop:=∀ (R:Type) (args:List SV) (κ:SC->Option R) (r:R) (X:Gst) (margs:List AV),g R args X.sh κ=some r->RVs X args margs->RH X->RGl P gl X ->
 ∃ q Y mq,κ q=some r/\Stp X Y/\CRR Y q mq/\Ev fun n=>qy P hk (qQ P hk n) (.f f) margs X.h=some mq
def ji:Pl->Code->Prop
 |.auto,_=>True
 |.two a b,c=>match c with
  |.seq x y=>ji a x/\ji b y
  |.cond _ x y=>ji a x/\ji b y
  |.loop x=>ji a x/\ji b (.loop x)
  |_=>False
 |.one a,c=>match c with
  |.block _ x=>ji a x
  |.loop x=>ji a x
  |_=>False
 |.cal _ f a rest,c=>(∀ fn b,P.funcs[f]?=some fn->fn.body=some b->ji a b)/\ji rest c
 |.by_ g,c=>match c with
  |.loop x=>zjb P gl hk (.loop x) g
  |.region id ops true=>zjb P gl hk (.region id ops true) g
  |.rangeFunc f ps a b=>zjb P gl hk (.rangeFunc f ps a b) g
  |_=>False
 |.yl _ id a b rest,c=>(∀ ps asg body,qE.at_ id=some (ps,asg,body)->ji a asg/\ji b body)/\ji rest c
structure zmV:Prop where
 calls:∀ f g,ct f=some g->zd2 P gl hk f g
 zqU:∀ f g,hk f=some g->ct f=none->(P.funcs[f]?).bind (·.body)=none
end
theorem zd3{R:Type}{k:SR->Option R}{l:zeY}{r:R}(h:alts k l=some r):∃ q,Hit l q/\k q=some r:=by
 induction l with
 |nil=>cases h
 |cons p l ih=>
  obtain⟨g,q⟩:=p
  cases g with
  |true=>exact⟨q,.inl ⟨rfl,rfl⟩,h⟩
  |false=>obtain⟨q',h1,h2⟩:=ih h;exact⟨q',.inr ⟨rfl,h1⟩,h2⟩
theorem zbE{X:Gst}{env env':List SV}{me:Arr AV}{d:Option Nat}{v:SV}{x:AV}(he:RVs X env me.toL)(hv:RV X v x)(h:jH env d v=some env'):∃ me',zdT me d x=some me'/\RVs X env' me'.toL:=by
 cases d with
 |none=>cases h;exact⟨me,rfl,he⟩
 |some d=>
  simp only[jH,xq,zhm] at h
  split at h
  ·rename_i w hw
   cases h
   have hd:=(List.getElem?_eq_some_iff.1 hw).1
   have hl:me.length=env.length:=by rw[<- Arr.qz,he.length]
   refine⟨me.set d x,by simp only[zdT];rw[if_pos (by omega)],?_⟩
   have:(me.set d x).toL=me.toL.set d x:=by
    refine List.ext_getElem? fun j=>?_
    rw[Arr.zS,Arr.zw,List.getElem?_set,Arr.zS,Arr.qz]
   rw[this]
   exact he.set d hv
  ·cases h
theorem EvR.of{P:Program}{gl:GL}{X:Gst}{env:List SV}{me:Arr AV}(he:RVs X env me.toL)(hg:RGl P gl X):EvR X (sev gl env) (mev P me X.h):=fun o v h=>zc6 he hg h
theorem ziZ{P:Program}{gl:GL}{X:Gst}{env:List SV}{me:Arr AV}(hr:RH X)(he:RVs X env me.toL)(hg:RGl P gl X){l:List ResultVar}{vs:List SV}(h:zoN P gl env X.sh l=some vs):∃ xs,zfA P me X.h l=some xs/\RVs X vs xs:=by
 induction l generalizing vs with
 |nil=>cases h;exact⟨[],rfl,rfl⟩
 |cons a l ih=>
  cases a with
  |tmp t=>
   simp only[zoN,xq] at h
   split at h
   ·rename_i v vs' h1 h2
    cases h
    obtain⟨x,h3,h4⟩:=he.get h1
    obtain⟨xs,h5,h6⟩:=ih h2
    exact⟨x::xs,by simp only[zfA,show me[t]?=some x from Arr.zS.symm.trans h3,h5],x,xs,rfl,h4,h6⟩
   ·cases h
  |cell a T=>
   simp only[zoN,xq] at h
   split at h
   ·rename_i p vs' h1 h2
    split at h
    ·rename_i v hv
     cases h
     obtain⟨x,h3,h4⟩:=he.get h1
     obtain⟨xs,h5,h6⟩:=ih h2
     have h3:me[a]?=some x:=Arr.zS.symm.trans h3
     obtain⟨loc,off,ver,lim,rfl,y,hy,⟨n,cs,q1,q2,q3,rfl⟩|⟨q1,q3⟩⟩:=zc7 hr hg h4 hv
     ·exact⟨.agg cs::xs,by simp only[zfA,h3,h5,q1,q2,q3],_,_,rfl,hy,h6⟩
     ·exact⟨y::xs,by simp only[zfA,h3,h5,q1,q3],_,_,rfl,hy,h6⟩
    ·cases h
   ·cases h
theorem ziG{X:Gst}{vs:List SV}{xs:List AV}(h:RVs X vs xs):RV X (zop vs) (zmi xs):=by
 match vs,xs,h with
 | [],_,rfl=>exact⟨[],rfl,rfl⟩
 | [v],_,⟨x,_,rfl,h1,rfl⟩=>exact h1
 |v::w::vs,_,⟨x,_,rfl,h1,y,xs,rfl,h2⟩=>exact⟨_,rfl,x,_,rfl,h1,y,xs,rfl,h2⟩
end Go.Sx
namespace Go.Sx
open Go Go.Gx Go.Mx
variable [qE]
mutual
theorem beq_refl:∀ (x:AV),x.beq x=true
 |.bool a=>by simp [AV.beq]
 |.int k a=>by simp [AV.beq]
 |.str a=>by simp [AV.beq]
 |.zbf=>rfl
 |.ptr l o v m=>by simp [AV.beq]
 |.qj=>rfl
 |.sl l o n z v c=>by simp [AV.beq]
 |.zcd=>rfl
 |.map l=>by simp [AV.beq]
 |.zeX=>rfl
 |.fn f a c=>by simp [AV.beq,wm a,wm c]
 |.xQ=>rfl
 |.ifc t v=>by simp [AV.beq,beq_refl v]
 |.opq=>rfl
 |.agg l=>by simp [AV.beq,wm l]
 |.tup l=>by simp [AV.beq,wm l]
 |.any=>rfl
 |.iv a b=>by simp [AV.beq]
 |.yld a=>by simp [AV.beq]
 |.vs l n=>by simp [AV.beq,wm l]
theorem wm:∀ (l:List AV),AV.zgg l l=true
 | []=>rfl
 |x::l=>by simp [AV.zgg,beq_refl x,wm l]
end
theorem Stp.grow{X:Gst}(hr:RH X)(bs:List Blk):Stp X ⟨X.h++bs,X.Φ,X.σ,X.sh⟩:=by
 have hh:∀ m,m<X.h.length->(X.h++bs)[m]?=X.h[m]?:=fun m hm=>Arr.zO hm
 have hle:X.le ⟨X.h++bs,X.Φ,X.σ,X.sh⟩:=⟨fun m hm=>hh m (hr.Φlt m hm),fun _ h=>h,Nat.le_refl _,fun _ _ v h=>⟨v,h⟩,fun _ _ l k md _ h=>⟨l,k,md,h,Nat.le_refl _,fun _=>⟨rfl,rfl⟩⟩,hr.len⟩
 have hl:X.h.length<=(X.h++bs).length:=by rw[Arr.zv];omega
 exact⟨hle,⟨hr.len,hr.inj,fun i m v h=>Nat.lt_of_lt_of_le (hr.lt i m v h) hl,fun m hm=>Nat.lt_of_lt_of_le (hr.Φlt m hm) hl,fun i b o hb ho=>(hr.blk i b o hb ho).le hle fun m v e=>hh m (hr.lt i m v (e ▸ ho)),hr.own⟩,
  ⟨hl,fun m hm _=>hh m hm,fun i b hb hm=>⟨b,hb,hm⟩,fun i m v h _=>⟨v,h⟩,fun i h=>⟨h,rfl⟩,fun _ _ h=>.inl h⟩⟩
section
variable {P:Program} {e e':Operand->Option AV} (hm:∀ x v,e x=some v->e' x=some v)
include hm
theorem jB{l:List Operand}{vs:List AV}(h:zdp e l=some vs):zdp e' l=some vs:=by
 induction l generalizing vs with
 |nil=>exact h
 |cons x l ih=>
  simp only[zdp] at h |-
  split at h
  ·rename_i v vs' h1 h2;rw[hm _ _ h1,ih h2];exact h
  ·cases h
theorem zav{l:List (Nat×Operand)}{vs:List (Nat×AV)}(h:qH e l=some vs):qH e' l=some vs:=by
 induction l generalizing vs with
 |nil=>exact h
 |cons x l ih=>
  obtain⟨i,x⟩:=x
  simp only[qH] at h |-
  split at h
  ·rename_i v vs' h1 h2;rw[hm _ _ h1,ih h2];exact h
  ·cases h
omit hm in
theorem za7{h h' h1:za}{o:Option AV}{v:AV}(q:rv h o=some (.val v h1)):rv h' o=some (.val v h'):=by
 cases o with
 |none=>cases q
 |some x=>cases q;rfl
theorem zeF{h h' h1:za}{x:Operand}{v:AV}(q:rv h (e x)=some (.val v h1)):rv h' (e' x)=some (.val v h'):=by
 cases ex:e x with
 |none=>rw[ex] at q;cases q
 |some y=>rw[ex] at q;rw[hm _ _ ex];cases q;rfl
theorem zl8{h h' h1:za}{op:Op}{v:AV}(hf:zjG op=true)(q:mop P e h op=some (.val v h1)):mop P e' h' op=some (.val v h'):=by
 cases op with
 |move x=>exact zeF hm q
 |assign x=>exact zeF hm q
 |pick c a b=>
  simp only[mop] at q |-
  split at q
  ·rename_i hc;rw[hm _ _ hc];exact zeF hm q
  ·rename_i hc;rw[hm _ _ hc];exact zeF hm q
  ·cases q
 |build t parts=>
  simp only[mop] at q |-
  split at q
  ·rename_i ps hp;rw[zav hm hp];exact za7 q
  ·cases q
 |nilCheck x=>
  simp only[mop] at q |-
  cases ex:e x with
  |none=>rw[ex] at q;cases q
  |some y=>rw[ex] at q;rw[hm _ _ ex];cases y<;>first|(cases q;rfl)|cases q
 |binOp op t x y t'=>
  simp only[mop] at q |-
  split at q
  ·rename_i a b h1 h2
   rw[hm _ _ h1,hm _ _ h2]
   split at q
   ·rename_i hg;simp only[hg,if_true];exact za7 q
   ·cases q
  ·cases q
 |unOp u t x=>
  simp only[mop] at q |-
  split at q
  ·rename_i h1;rw[hm _ _ h1];cases q;rfl
  ·rename_i h1;rw[hm _ _ h1];cases q;rfl
  ·rename_i h1;rw[hm _ _ h1];cases q;rfl
  ·cases q
 |makeInterface t x=>
  simp only[mop] at q |-
  split at q
  ·cases q
  ·rename_i d y hy h0 h1;rw[hm _ _ h1,h0];cases q;cases d<;>first|rfl|exact absurd rfl (hy _)
  ·cases q
 |makeFunc f a b=>
  cases f with
  |func f=>
   simp only[mop] at q |-
   split at q
   ·rename_i h1 h2;rw[jB hm h1,jB hm h2];cases q;rfl
   ·cases q
  |_=>cases hf
 |fieldAddr s x f=>
  simp only[mop] at q |-
  split at q
  ·rename_i h1;rw[hm _ _ h1];exact za7 q
  ·cases q
 |field t x f=>
  simp only[mop] at q |-
  split at q
  ·rename_i h0 h1
   rw[hm _ _ h1]
   split at q
   ·rename_i h2;rw[h0];simp only[h2];exact za7 q
   ·cases q
  ·cases q
 |indexAddr t x i=>
  simp only[mop] at q |-
  split at q
  ·rename_i h1 h2;rw[hm _ _ h1,hm _ _ h2];exact za7 q
  ·cases q
 |index t x i=>
  simp only[mop] at q |-
  split at q
  ·rename_i h1 h2;rw[hm _ _ h1,hm _ _ h2];exact za7 q
  ·cases q
 |extract x i=>
  simp only[mop] at q |-
  split at q
  ·rename_i h1;rw[hm _ _ h1];exact za7 q
  ·cases q
 |_=>cases hf
theorem zl9{h h' h1:za}{t:TypeId}{x:Operand}{v:AV}(hs:∀ loc off ver lim,e x=some (.ptr loc off ver lim)->h'[loc]?=h[loc]?)(q:mop P e h (.load t x)=some (.val v h1)):mop P e' h' (.load t x)=some (.val v h'):=by
 simp only[mop] at q |-
 split at q
 ·rename_i loc off ver lim n h2 h3 h4
  rw[hm _ _ h2,h3,h4]
  simp only[zax (hs _ _ _ _ h2)]
  split at q
  ·rename_i h5;cases q;simp only[]
  ·cases q
 ·rename_i loc off ver lim h2 h3
  rw[hm _ _ h2,h3]
  simp only[zax (hs _ _ _ _ h2)]
  split at q
  ·rename_i h5;cases q;simp only[]
  ·cases q
 ·cases q
end
theorem jj{e e':Operand->Option AV}(hm:∀ x v,e x=some v->e' x=some v){o:Option Operand}{v:Option Int}(h:jX e o=some v):jX e' o=some v:=by
 cases o with
 |none=>exact h
 |some x=>
  simp only[jX] at h |-
  split at h
  ·rename_i h1;rw[hm _ _ h1];exact h
  ·cases h
theorem zcr{P:Program}{e e':Operand->Option AV}(hm:∀ x v,e x=some v->e' x=some v){h:za}{op:Op}{q:Rs}(hq:mop P e h op=some q):mop P e' h op=some q:=by
 have one:∀ {x:Operand} {f:Option AV->Option Rs},f (e x)=some q->f none=none->f (e' x)=some q:=fun {x f} h1 h2=>by
  cases ex:e x with
  |none=>rw[ex,h2] at h1;cases h1
  |some y=>rw[ex] at h1;rw[hm _ _ ex];exact h1
 cases op with
 |move x=>exact one (f:=rv h) hq rfl
 |assign x=>exact one (f:=rv h) hq rfl
 |pick c a b=>
  simp only[mop] at hq |-
  split at hq
  ·rename_i hc;rw[hm _ _ hc];exact one (f:=rv h) hq rfl
  ·rename_i hc;rw[hm _ _ hc];exact one (f:=rv h) hq rfl
  ·cases hq
 |alloc t=>exact hq
 |box t x=>simp only[mop] at hq |-;split at hq<;>first|(cases hq;done)|(rename_i h1;rw[hm _ _ h1];exact hq)
 |build t parts=>simp only[mop] at hq |-;split at hq<;>first|(cases hq;done)|(rename_i h1;rw[zav hm h1];exact hq)
 |buildSlice t len parts=>simp only[mop] at hq |-;split at hq<;>first|(cases hq;done)|(rename_i h1;rw[zav hm h1];exact hq)
 |load t x=>
  simp only[mop] at hq |-
  split at hq
  ·rename_i h1 h2 h3;rw[hm _ _ h1,h2,h3];exact hq
  ·rename_i h1 h2;rw[hm _ _ h1,h2];exact hq
  ·cases hq
 |store t a x=>simp only[mop] at hq |-;split at hq<;>first|(cases hq;done)|(rename_i h1 h2 h3;rw[hm _ _ h1,hm _ _ h2,h3];exact hq)
 |nilCheck x=>
  simp only[mop] at hq |-
  cases ex:e x with
  |none=>rw[ex] at hq;cases hq
  |some y=>rw[ex] at hq;rw[hm _ _ ex];exact hq
 |binOp op t x y t'=>simp only[mop] at hq |-;split at hq<;>first|(cases hq;done)|(rename_i h1 h2;rw[hm _ _ h1,hm _ _ h2];exact hq)
 |unOp u t x=>
  simp only[mop] at hq |-
  cases ex:e x with
  |none=>rw[ex] at hq;cases u<;>cases hq
  |some y=>rw[ex] at hq;rw[hm _ _ ex];exact hq
 |convert s d x=>simp only[mop] at hq |-;split at hq<;>first|(cases hq;done)|(rename_i h1;rw[hm _ _ h1];exact hq)
 |makeInterface t x=>
  simp only[mop] at hq |-
  split at hq
  ·cases hq
  ·rename_i d y hy h0 h1;rw[hm _ _ h1,h0];cases hq;cases d<;>first|rfl|exact absurd rfl (hy _)
  ·cases hq
 |makeFunc f a b=>
  cases f with
  |func f=>simp only[mop] at hq |-;split at hq<;>first|(cases hq;done)|(rename_i h1 h2;rw[jB hm h1,jB hm h2];exact hq)
  |_=>cases hq
 |makeMap t r=>cases r with
  |none=>exact hq
  |some _=>cases hq
 |makeSlice t a b=>simp only[mop] at hq |-;split at hq<;>first|(cases hq;done)|(rename_i h1 h2;rw[hm _ _ h1,hm _ _ h2];exact hq)
 |slice t x lo hi mx=>simp only[mop] at hq |-;split at hq<;>first|(cases hq;done)|(rename_i h1 h2 h3 h4;rw[hm _ _ h1,jj hm h2,jj hm h3,jj hm h4];exact hq)
 |fieldAddr s x f=>simp only[mop] at hq |-;split at hq<;>first|(cases hq;done)|(rename_i h1;rw[hm _ _ h1];exact hq)
 |field t x f=>simp only[mop] at hq |-;split at hq<;>first|(cases hq;done)|(rename_i h0 h1;rw[hm _ _ h1,h0];exact hq)
 |indexAddr t x i=>simp only[mop] at hq |-;split at hq<;>first|(cases hq;done)|(rename_i h1 h2;rw[hm _ _ h1,hm _ _ h2];exact hq)
 |index t x i=>simp only[mop] at hq |-;split at hq<;>first|(cases hq;done)|(rename_i h1 h2;rw[hm _ _ h1,hm _ _ h2];exact hq)
 |lookup t x i ok=>simp only[mop] at hq |-;split at hq<;>first|(cases hq;done)|(rename_i h1 h2;rw[hm _ _ h1,hm _ _ h2];exact hq)
 |mapUpdate t m k v=>simp only[mop] at hq |-;split at hq<;>first|(cases hq;done)|(rename_i h1 h2 h3;rw[hm _ _ h1,hm _ _ h2,hm _ _ h3];exact hq)
 |insert t m k v=>simp only[mop] at hq |-;split at hq<;>first|(cases hq;done)|(rename_i h1 h2 h3;rw[hm _ _ h1,hm _ _ h2,hm _ _ h3];exact hq)
 |typeAssert x t u c=>
  cases c with
  |false=>cases hq
  |true=>
   simp only[mop] at hq |-
   cases ex:e x with
   |none=>
    rw[ex] at hq
    revert hq
    generalize P.underlying u=d
    intro hq
    cases d with
    |none=>cases hq
    |some d=>cases d<;>cases hq
   |some y=>rw[ex] at hq;rw[hm _ _ ex];exact hq
 |range t x=>
  simp only[mop] at hq |-
  cases ex:e x with
  |none=>
   rw[ex] at hq
   revert hq
   generalize P.underlying t=d
   intro hq
   cases d with
   |none=>cases hq
   |some d=>cases d<;>cases hq
  |some y=>rw[ex] at hq;rw[hm _ _ ex];exact hq
 |next x b=>
  cases b with
  |true=>cases hq
  |false=>simp only[mop] at hq |-;split at hq<;>first|(cases hq;done)|(rename_i h1;rw[hm _ _ h1];exact hq)
 |entry x=>simp only[mop] at hq |-;split at hq<;>first|(cases hq;done)|(rename_i h1;rw[hm _ _ h1];exact hq)
 |extract x i=>simp only[mop] at hq |-;split at hq<;>first|(cases hq;done)|(rename_i h1;rw[hm _ _ h1];exact hq)
 |call c=>
  simp only[mop] at hq |-
  split at hq
  ·rename_i f args h1 h2
   rw[h1,jB hm h2]
   simp only
   split at hq
   ·rename_i h3;rw[hm _ _ h3];exact hq
   ·rename_i h3;rw[hm _ _ h3];exact hq
   ·cases hq
  ·rename_i b args h1 h2
   rw[h1,jB hm h2];exact hq
  ·cases hq
 |defer c=>
  simp only[mop] at hq |-
  split at hq
  ·rename_i f args h1 h2
   rw[h1,jB hm h2]
   simp only
   split at hq
   ·rename_i h3;rw[hm _ _ h3];exact hq
   ·cases hq
  ·cases hq
 |_=>cases hq
def MFr(P:Program)(e:Operand->Option AV)(op:Op):Prop:=∀ (e':Operand->Option AV) (h h' h1:za) (v:AV),(∀ x w,e x=some w->e' x=some w)->mop P e h op=some (.val v h1)->mop P e' h' op=some (.val v h')
def zih:AV->Prop
 |.int _ _=>True
 |.str _=>True
 |.qj=>True
 |.sl ..=>True
 |_=>False
def zrn:AV->Prop
 |.int _ _=>True
 |.str _=>True
 |_=>False
theorem zcL{X:Gst}{v:SV}{x:AV}(h:znS v=true)(q:RV X v x):zih x:=by
 cases v with
 |a w=>cases(show x=_ from q);cases x<;>first|trivial|cases h
 |u8 b=>cases(show x=_ from q);trivial
 |isl u l=>rcases(show RSl X.h X.Φ false u l x from q) with⟨_,rfl⟩|⟨m,off,ver,c',cs,rfl,_⟩<;>trivial
 |cl u l=>rcases q.1 with⟨_,rfl⟩|⟨m,off,ver,c',cs,rfl,_⟩<;>trivial
 |ul u l=>obtain⟨c,q⟩:=q;rcases q with⟨_,rfl⟩|⟨m,off,ver,c',cs,rfl,_⟩<;>trivial
 |nsl u l=>obtain⟨m,off,ver,c',cs,rfl,_⟩:=q;trivial
 |_=>cases h
theorem zgq{X:Gst}{v:SV}{x:AV}(h:znR X.sh v=true)(q:RV X v x):zih x:=by
 unfold znR at h
 rcases Bool.or_eq_true _ _ ▸ h with h|h
 ·exact zcL h q
 ·split at h
  ·split at h
   ·rename_i hb
    cases zb h
    obtain⟨_,o,ho,hc⟩:=q
    have hQ:=(hc _ _ _ _ hb).2 rfl
    cases o with
    |none=>obtain⟨rfl,_⟩:=hQ;trivial
    |some p=>cases(show x=_ from hQ);trivial
   ·cases h
  ·split at h
   ·rename_i hb
    cases zb h
    obtain⟨_,o,ho,hc⟩:=q
    have hQ:=((hc _ _ _ _ hb).2 rfl).2
    cases o with
    |none=>cases(show x=_ from hQ);trivial
    |some p=>cases(show x=_ from hQ);trivial
   ·cases h
  ·cases h
theorem ziF{X:Gst}{v:SV}{x:AV}(h:zro v=true)(q:RV X v x):zrn x:=by
 cases v with
 |a w=>cases(show x=_ from q);cases x<;>first|trivial|cases h
 |u8 b=>cases(show x=_ from q);trivial
 |_=>cases h
theorem zgS{P:Program}{t:TypeId}{x:AV}{a b c:Option Int}{h h':za}(hx:zih x):qi P t x a b c h=qi P t x a b c h':=by
 unfold qi
 cases x<;>first|(cases hx;done)|(cases P.underlying t with|none=>rfl|some d=>cases d<;>rfl)
theorem zkg{P:Program}{t:TypeId}{x:AV}{h h':za}(hx:zih x):zkf P t x h=zkf P t x h':=by
 unfold zkf
 cases x<;>first|(cases hx;done)|(cases P.underlying t with|none=>rfl|some d=>cases d<;>rfl)
theorem zj8{P:Program}{e:Operand->Option AV}{t:TypeId}{x:Operand}{lo hi mx:Option Operand}(hx:∀ v,e x=some v->zih v)(hs:∃ (v y:AV) (a b c:Option Int) (h0:za),e x=some v/\jX e lo=some a/\jX e hi=some b/\jX e mx=some c/\qi P t v a b c h0=some y):MFr P e (.slice t x lo hi mx):=by
 intro e' h h' h1 v hm q
 obtain⟨v0,y,a,b,c,h0,k1,k2,k3,k4,k5⟩:=hs
 have k6:∀ h,qi P t v0 a b c h=some y:=fun h=>by rw[zgS (h':=h0) (hx _ k1)];exact k5
 simp only[mop,k1,k2,k3,k4,zbw (k6 h)] at q
 simp only[mop,hm _ _ k1,jj hm k2,jj hm k3,jj hm k4,zbw (k6 h')]
 exact za7 q
theorem zj3{P:Program}{s d:TypeId}{k:IntKind}{n:Int}{h:za}:wA P s d (.int k n) h=match P.underlying s,P.underlying d with
  |some _,some (.int k')=>some (.int k' (k'.wrap n),h)
  |_,_=>none:=by
 unfold wA
 cases P.underlying s with
 |none=>rfl
 |some a=>cases P.underlying d with
  |none=>cases a<;>rfl
  |some b=>cases a<;>cases b<;>rfl
theorem zj4{P:Program}{s d:TypeId}{l:List UInt8}{h:za}(hd:∀ e,P.underlying d≠some (.slice e)):wA P s d (.str l) h=match P.underlying s,P.underlying d with
  |some _,some .string=>some (.str l,h)
  |_,_=>none:=by
 unfold wA
 cases P.underlying s with
 |none=>rfl
 |some a=>cases hb:P.underlying d with
  |none=>cases a<;>rfl
  |some b=>cases b<;>first|exact absurd hb (hd _)|(cases a<;>rfl)
theorem zl2{P:Program}{e:Operand->Option AV}{s d:TypeId}{x:Operand}(hk:kindOf P (.convert s d x)=.quiet)(hx:∀ v,e x=some v->zrn v):MFr P e (.convert s d x):=by
 intro e' h h' h1 v hm q
 have hd:∀ el,P.underlying d≠some (.slice el):=fun el he=>by simp only[kindOf,he] at hk;cases hk
 simp only[mop] at q |-
 split at q
 ·rename_i y h2
  rw[hm _ _ h2]
  simp only
  have hn:=hx _ h2
  cases y with
  |int k n=>
   rw[zj3] at q |-
   split at q
   ·cases q;rfl
   ·cases q
  |str l=>
   rw[zj4 hd] at q |-
   split at q
   ·cases q;rfl
   ·cases q
  |_=>cases hn
 ·cases q
theorem zoc{P:Program}{e:Operand->Option AV}{c:Call}(hc:c.callee=.builtin .len)(hx:∀ x,zdp e c.args.toList=some [x]->zih x)(hl:∃ x,zdp e c.args.toList=some [x]):MFr P e (.call c):=by
 intro e' h h' h1 v hm q
 obtain⟨x,hx1⟩:=hl
 simp only[mop] at q |-
 rw[hc,hx1] at q
 rw[hc,jB hm hx1]
 simp only at q |-
 cases ht:c.argTypes.toList with
 |nil=>rw[ht] at q;cases q
 |cons t ts=>
  rw[ht] at q
  simp only[qh] at q |-
  rw[zkg (h':=h') (hx _ hx1)] at q
  exact za7 q
theorem wo{D i k:Nat}:bit (D ||| (1 <<< i)) k=(bit D k||decide (i=k)):=by
 simp only[bit,Nat.testBit_or];rw[Nat.one_shiftLeft,Nat.testBit_two_pow]
theorem zd4{D i k:Nat}:bit ((1 <<< i) ||| D) k=(decide (i=k)||bit D k):=by
 simp only[bit,Nat.testBit_or];rw[Nat.one_shiftLeft,Nat.testBit_two_pow]
theorem zcG{a b k:Nat}:bit (a &&& b) k=(bit a k&&bit b k):=Nat.testBit_and ..
theorem zm1{a b k:Nat}:bit (a ||| b) k=(bit a k||bit b k):=Nat.testBit_or ..
theorem js{k:Nat}:bit 0 k=false:=Nat.zero_testBit k
theorem zgh{i k:Nat}:bit ((1 <<< i)-1) k=decide (k<i):=by
 rw[Nat.one_shiftLeft];exact Nat.testBit_two_pow_sub_one ..
theorem zo8{b i k:Nat}(h:Nat.blt b (1 <<< i)=true)(hk:bit b k=true):k<i:=by
 have h:=qg h
 rw[Nat.one_shiftLeft] at h
 refine Nat.lt_of_not_le fun hle=>?_
 have:b.testBit k=false:=Nat.testBit_lt_two_pow (Nat.lt_of_lt_of_le h (Nat.pow_le_pow_right (by omega) hle))
 rw[show b.testBit k=true from hk] at this;cases this
theorem kf{a b k:Nat}(h:zoQ a b=true)(hk:bit a k=true):bit b k=true:=by
 have h:=Nat.eq_of_beq_eq_true h
 rw[<- h,zcG] at hk
 simp only[Bool.and_eq_true] at hk
 exact hk.2
theorem zae{i:Nat}:∀ {I:List (Option Nat×Nat)} {k0 k:Nat},bit (zbI i I k0) k=true->∃ (j:Nat) (d:Option Nat) (m:Nat),k=k0+j/\I[j]?=some (d,m)/\bit m i=true
 | [],k0,k,h=>by simp only[zbI,js] at h;cases h
 |(d,m)::I,k0,k,h=>by
  have rest:bit (zbI i I (k0+1)) k=true->∃ (j:Nat) (d':Option Nat) (m':Nat),k=k0+j/\((d,m)::I)[j]?=some (d',m')/\bit m' i=true:=fun h=>by
   obtain⟨j,d',m',h1,h2,h3⟩:=zae h
   exact⟨j+1,d',m',by omega,by simpa using h2,h3⟩
  unfold zbI at h
  split at h
  ·rename_i hb
   rw[zd4] at h
   simp only[Bool.or_eq_true,decide_eq_true_eq] at h
   rcases h with rfl|h
   ·exact⟨0,d,m,rfl,rfl,hb⟩
   ·exact rest h
  ·exact rest h
theorem zbh{P:Program}:∀ {l:List Oper} {i0 k:Nat},bit (zQ P l i0) k=true↔∃ (j:Nat) (o:Oper),k=i0+j/\l[j]?=some o/\kindOf P o.op=.act
 | [],i0,k=>by simp [zQ,js]
 |o::l,i0,k=>by
  have rest:=zbh (P:=P) (l:=l) (i0:=i0+1) (k:=k)
  have step:(∃ (j:Nat) (o':Oper),k=i0+j/\(o::l)[j]?=some o'/\kindOf P o'.op=.act)↔(k=i0/\kindOf P o.op=.act)\/∃ (j:Nat) (o':Oper),k=i0+1+j/\l[j]?=some o'/\kindOf P o'.op=.act:=by
   constructor
   ·rintro⟨j,o',h1,h2,h3⟩
    cases j with
    |zero=>simp at h2;subst h2;exact .inl ⟨by omega,h3⟩
    |succ j=>exact .inr ⟨j,o',by omega,by simpa using h2,h3⟩
   ·rintro(⟨h1,h2⟩|⟨j,o',h1,h2,h3⟩)
    ·exact⟨0,o,by omega,rfl,h2⟩
    ·exact⟨j+1,o',by omega,by simpa using h2,h3⟩
  rw[step,<- rest,show zQ P (o::l) i0=(match kindOf P o.op with|.act=>(1 <<< i0) ||| zQ P l (i0+1)|_=>zQ P l (i0+1)) from rfl]
  split
  ·rename_i hk
   rw[zd4]
   simp only[Bool.or_eq_true,decide_eq_true_eq]
   constructor
   ·rintro(rfl|h)
    ·exact .inl ⟨rfl,hk⟩
    ·exact .inr h
   ·rintro(⟨h,_⟩|h)
    ·exact .inl h.symm
    ·exact .inr h
  ·rename_i hk
   exact⟨.inr,fun h=>h.elim (fun h=>absurd h.2 hk) id⟩
theorem zdF{P:Program}:∀ {l:List Oper} {i0 k:Nat},bit (qP P l i0) k=true↔∃ (j:Nat) (o:Oper) (t:TypeId),k=i0+j/\l[j]?=some o/\kindOf P o.op=.hole t
 | [],i0,k=>by simp [qP,js]
 |o::l,i0,k=>by
  have rest:=zdF (P:=P) (l:=l) (i0:=i0+1) (k:=k)
  have step:(∃ (j:Nat) (o':Oper) (t:TypeId),k=i0+j/\(o::l)[j]?=some o'/\kindOf P o'.op=.hole t)↔(k=i0/\∃ t,kindOf P o.op=.hole t)\/∃ (j:Nat) (o':Oper) (t:TypeId),k=i0+1+j/\l[j]?=some o'/\kindOf P o'.op=.hole t:=by
   constructor
   ·rintro⟨j,o',t,h1,h2,h3⟩
    cases j with
    |zero=>simp at h2;subst h2;exact .inl ⟨by omega,t,h3⟩
    |succ j=>exact .inr ⟨j,o',t,by omega,by simpa using h2,h3⟩
   ·rintro(⟨h1,t,h2⟩|⟨j,o',t,h1,h2,h3⟩)
    ·exact⟨0,o,t,by omega,rfl,h2⟩
    ·exact⟨j+1,o',t,by omega,by simpa using h2,h3⟩
  rw[step,<- rest,show qP P (o::l) i0=(match kindOf P o.op with|.hole _=>(1 <<< i0) ||| qP P l (i0+1)|_=>qP P l (i0+1)) from rfl]
  split
  ·rename_i t hk
   rw[zd4]
   simp only[Bool.or_eq_true,decide_eq_true_eq]
   constructor
   ·rintro(rfl|h)
    ·exact .inl ⟨rfl,t,hk⟩
    ·exact .inr h
   ·rintro(⟨h,_⟩|h)
    ·exact .inl h.symm
    ·exact .inr h
  ·rename_i hk
   exact⟨.inr,fun h=>h.elim (fun h=>absurd h.2.choose_spec (hk _)) id⟩
structure OkK(I:List (Option Nat×Nat))(am hm D i b:Nat):Prop where
 sub:∀ k,bit b k=true->bit D k=true
 new:bit D i=false
 low:∀ k,bit b k=true->k<i
 act:bit am i=true->(∀ k,bit D k=true->bit am k=true->bit b k=true)/\∀ k,bit am k=true->(bit D k=true↔k<i)
 hole:bit am i=false->bit hm i=true->∀ k,bit am k=true->bit D k=true\/∃ (d:Option Nat) (m:Nat),I[k]?=some (d,m)/\bit m i=true
 quiet:bit am i=false->bit hm i=false->∀ k,bit D k=true->bit am k=true->bit b k=true
theorem zmh{I:List (Option Nat×Nat)}{am hm D i b:Nat}(h:okK I am hm D i b=true):OkK I am hm D i b:=by
 unfold okK at h
 simp only[Bool.and_eq_true,Bool.not_eq_true'] at h
 obtain⟨h1,h2,h3,h4⟩:=h
 refine⟨fun k=>kf h1,h2,fun k=>zo8 h3,fun ha=>?_,fun ha hh=>?_,fun ha hh=>?_⟩
 ·rw[ha] at h4
  simp only[Bool.and_eq_true] at h4
  refine⟨fun k h5 h6=>kf h4.1 (by rw[zcG,h5,h6];rfl),fun k hk=>?_⟩
  have:=congrArg (fun x=>bit x k) (Nat.eq_of_beq_eq_true h4.2)
  simp only[zcG,zgh,hk,Bool.and_true,Bool.true_and] at this
  rw[this];exact decide_eq_true_iff
 ·rw[ha,hh] at h4
  intro k hk
  have:=kf h4 hk
  rw[zm1] at this
  simp only[Bool.or_eq_true] at this
  refine this.imp id fun h=>?_
  obtain⟨j,d,m,e,h5,h6⟩:=zae h
  rw[Nat.zero_add] at e;subst e
  exact⟨d,m,h5,h6⟩
 ·rw[ha,hh] at h4
  exact fun k h5 h6=>kf h4 (by rw[zcG,h5,h6];rfl)
theorem ziI{I:List (Option Nat×Nat)}{am i b:Nat}(h:zfP I am i b=false):∀ k,bit am k=true->bit b k=true\/(i<=k/\∃ (d:Option Nat) (m:Nat),I[k]?=some (d,m)/\bit m i=true):=by
 unfold zfP at h
 simp only[Bool.not_eq_false',Bool.and_eq_true] at h
 intro k hk
 have h2:=kf h.2 hk
 rw[zm1] at h2
 simp only[Bool.or_eq_true] at h2
 rcases h2 with h2|h2
 ·exact .inl h2
 ·by_cases hlt:k<i
  ·exact .inl (kf h.1 (by rw[zcG,zgh,hk];simpa using hlt))
  ·obtain⟨j,d,m,e,h5,h6⟩:=zae h2
   rw[Nat.zero_add] at e;subst e
   exact .inr ⟨by omega,d,m,h5,h6⟩
theorem zey{i b t:Nat}:∀ {I:List (Option Nat×Nat)} {k0:Nat},okT i b t I k0=true->∀ (j m:Nat),I[j]?=some (some t,m)->bit b (k0+j)=true\/bit m i=true
 | [],k0,h,j,m,hj=>by simp at hj
 |(some d,m0)::I,k0,h,j,m,hj=>by
  unfold okT at h
  cases j with
  |zero=>
   simp at hj
   obtain⟨rfl,rfl⟩:=hj
   rw[Nat.beq_refl] at h
   simp only[Bool.and_eq_true,Bool.or_eq_true] at h
   exact h.1
  |succ j=>
   have hr:okT i b t I (k0+1)=true:=by
    split at h
    ·simp only[Bool.and_eq_true] at h;exact h.2
    ·exact h
   have:=zey hr j m (by simpa using hj)
   rwa [show k0+1+j=k0+(j+1) by omega] at this
 |(none,m0)::I,k0,h,j,m,hj=>by
  cases j with
  |zero=>simp at hj
  |succ j=>
   have:=zey (I:=I) h j m (by simpa using hj)
   rwa [show k0+1+j=k0+(j+1) by omega] at this
theorem zbl{i b t:Nat}{old:Option AV}:∀ {I:List (Option Nat×Nat)} {k:Nat} {vs:List AV},(∀ (j m:Nat),I[j]? ≠ some (some t,m))->zca i b t old I k vs=old
 | [],_,_,_=>rfl
 |(some d,m)::I,k,vs,h=>by
  unfold zca
  have:Nat.beq d t=false:=by
   cases e:Nat.beq d t with
   |false=>rfl
   |true=>exact absurd (by rw[Nat.eq_of_beq_eq_true e];rfl) (h 0 m)
  rw[this]
  exact zbl fun j m'=>by simpa using h (j+1) m'
 |(none,m)::I,k,vs,h=>by
  unfold zca
  exact zbl fun j m'=>by simpa using h (j+1) m'
theorem zcU{i b t:Nat}{old:Option AV}:∀ {I:List (Option Nat×Nat)} {k:Nat} {vs:List AV} {j m:Nat},I[j]?=some (some t,m)->(∀ (j' m':Nat),I[j']?=some (some t,m')->j'=j) ->
  zca i b t old I k vs=match bit b (k+j) with
   |true=>vs[j]?
   |false=>match bit m i with
    |true=>old
    |false=>none
 | [],k,vs,j,m,hj,_=>by simp at hj
 |(some d,m0)::I,k,vs,j,m,hj,hu=>by
  unfold zca
  cases j with
  |zero=>
   simp at hj
   obtain⟨rfl,rfl⟩:=hj
   rw[Nat.beq_refl]
   simp only[Nat.add_zero]
   rw[List.head?_eq_getElem?]
   rfl
  |succ j=>
   have:Nat.beq d t=false:=by
    cases e:Nat.beq d t with
    |false=>rfl
    |true=>have:=hu 0 m0 (by rw[Nat.eq_of_beq_eq_true e];rfl);omega
   rw[this]
   simp only
   rw[zcU (by simpa using hj) (fun j' m' h=>by have:=hu (j'+1) m' (by simpa using h);omega),List.getElem?_tail,show k+1+j=k+(j+1) by omega]
 |(none,m0)::I,k,vs,j,m,hj,hu=>by
  unfold zca
  cases j with
  |zero=>simp at hj
  |succ j=>rw[zcU (by simpa using hj) (fun j' m' h=>by have:=hu (j'+1) m' (by simpa using h);omega),List.getElem?_tail,show k+1+j=k+(j+1) by omega]
def _root_.Go.Mx.Rec.hp:Rec->Option za
 |.act _ h=>some h
 |_=>none
def hF(E:Nat->Rec)(h0:za):Nat->za
 |0=>h0
 |n+1=>match(E n).hp with
  |some h=>h
  |none=>hF E h0 n
def qk(ρ:Nat->Rec)(n:Nat):List Rec:=(List.range n).map ρ
theorem zV{ρ:Nat->Rec}{n:Nat}:(qk ρ n).length=n:=by simp [qk]
theorem za4{ρ:Nat->Rec}{n k:Nat}(h:k<n):(qk ρ n)[k]?=some (ρ k):=by simp [qk,List.getElem?_range h]
theorem zbB{ρ:Nat->Rec}{n:Nat}:qk ρ (n+1)=qk ρ n++[ρ n]:=by simp [qk,List.range_succ]
theorem zdQ{ρ:Nat->Rec}{n k:Nat}(h:k<n):(qk ρ n).drop k=ρ k::(qk ρ n).drop (k+1):=by
 rw[List.drop_eq_getElem_cons (by rw[zV];exact h)]
 congr 1
 have:=za4 (ρ:=ρ) h
 rw[List.getElem?_eq_getElem (by rw[zV];exact h)] at this
 exact Option.some.inj this
theorem zfe{r:Rec}:∀ {l:List Rec} {h:za},zaL h (l++[r])=match r.hp with|some h'=>h' | none=>zaL h l
 | [],h=>by cases r<;>rfl
 |a::l,h=>by cases a<;>simp only[List.cons_append,zaL]<;>exact zfe
theorem zef{ρ:Nat->Rec}{h0:za}:∀ {n:Nat},zaL h0 (qk ρ n)=hF ρ h0 n
 |0=>rfl
 |n+1=>by rw[zbB,zfe,zef];rfl
theorem zaM{E E':Nat->Rec}{h0:za}:∀ {n:Nat},(∀ k,k<n->(E k).hp=(E' k).hp)->hF E h0 n=hF E' h0 n
 |0,_=>rfl
 |n+1,h=>by
  unfold hF
  rw[h n (Nat.lt_succ_self _),zaM fun k hk=>h k (by omega)]
theorem zjJ{E:Nat->Rec}{h0:za}{a:Nat}:∀ {n:Nat},(∀ k,a<=k->k<n->(E k).hp=none)->a<=n->hF E h0 n=hF E h0 a
 |0,_,ha=>by rw[Nat.le_zero.1 ha]
 |n+1,h,ha=>by
  by_cases e:a=n+1
  ·rw[e]
  ·rw[<- zjJ (n:=n) (fun k h1 h2=>h k h1 (by omega)) (by omega)]
   show(match(E n).hp with|some h=>h|none=>hF E h0 n)=_
   rw[h n (by omega) (by omega)]
theorem zph{E:Nat->Rec}{h0 h':za}{i n:Nat}(hi:(E i).hp=some h')(hn:i<n)(h:∀ k,i<k->k<n->(E k).hp=none):hF E h0 n=h':=by
 rw[zjJ (a:=i+1) (fun k h1 h2=>h k (by omega) h2) (by omega)]
 show(match(E i).hp with|some h=>h|none=>hF E h0 i)=_
 rw[hi]
theorem zm6{cond:za->Bool}{i b n:Nat}{ρ:Nat->Rec}{I:List (Option Nat×Nat)}{h0:za}(hI:I.length=n)
  (hA:∀ k,k<n->(ρ k).hp≠none->bit b k=false->(∀ (j:Nat) (d:Option Nat) (m:Nat),j<k->I[j]?=some (d,m)->(ρ j).hp≠none->bit b j=false->bit m i=false)->cond (hF ρ h0 k)=true)
  (hB:(∀ (j:Nat) (d:Option Nat) (m:Nat),j<n->I[j]?=some (d,m)->(ρ j).hp≠none->bit b j=false->bit m i=false)->cond (hF ρ h0 n)=true):
  goQ cond i b (qk ρ n) I 0 h0=true:=by
 have key:∀ (c k:Nat),k+c=n->(∀ (j:Nat) (d:Option Nat) (m:Nat),j<k->I[j]?=some (d,m)->(ρ j).hp≠none->bit b j=false->bit m i=false)->goQ cond i b ((qk ρ n).drop k) (I.drop k) k (hF ρ h0 k)=true:=by
  intro c
  induction c with
  |zero=>
   intro k hk hp
   have hk:k=n:=by omega
   subst hk
   rw[List.drop_of_length_le (by rw[zV];exact Nat.le_refl _),List.drop_of_length_le (by omega)]
   exact hB hp
  |succ c ih=>
   intro k hk hp
   have hkn:k<n:=by omega
   have hIk:I.drop k=I[k]'(by omega)::I.drop (k+1):=List.drop_eq_getElem_cons (by omega)
   obtain⟨d,m,hdm⟩:∃ d m,I[k]?=some (d,m):=⟨_,_,List.getElem?_eq_getElem (by omega)⟩
   rw[zdQ hkn,hIk]
   have e:I[k]'(by omega)=(d,m):=by
    rw[List.getElem?_eq_getElem (by omega)] at hdm;exact Option.some.inj hdm
   rw[e]
   have nx:(∀ x,(ρ k).hp=some x->bit b k=true\/bit m i=false)->goQ cond i b ((qk ρ n).drop (k+1)) (I.drop (k+1)) (k+1) (hF ρ h0 (k+1))=true:=fun hq=>ih (k+1) (by omega) fun j d' m' hj hI' ha hb=>by
    by_cases ej:j=k
    ·subst ej
     rw[hdm] at hI';cases hI'
     cases hx:(ρ j).hp with
     |none=>exact absurd hx ha
     |some x=>
           rcases hq x hx with h|h
           ·rw[hb] at h;cases h
           ·exact h
    ·exact hp j d' m' (by omega) hI' ha hb
   cases hr:ρ k with
   |act v h'=>
    have hF1:hF ρ h0 (k+1)=h':=by simp only[hF,hr,Rec.hp]
    rw[hF1] at nx
    unfold goQ
    cases hb:bit b k with
    |true=>exact nx fun _ _=>.inl hb
    |false=>
     have hc:=hA k hkn (by rw[hr];simp [Rec.hp]) hb hp
     cases hm:bit m i with
     |true=>exact hc
     |false=>rw[hc,nx fun _ _=>.inr hm];rfl
   |off=>
    have hF1:hF ρ h0 (k+1)=hF ρ h0 k:=by simp only[hF,hr,Rec.hp]
    rw[hF1] at nx
    exact nx fun x hx=>by rw[hr] at hx;cases hx
   |hole a c=>
    have hF1:hF ρ h0 (k+1)=hF ρ h0 k:=by simp only[hF,hr,Rec.hp]
    rw[hF1] at nx
    exact nx fun x hx=>by rw[hr] at hx;cases hx
   |quiet v=>
    have hF1:hF ρ h0 (k+1)=hF ρ h0 k:=by simp only[hF,hr,Rec.hp]
    rw[hF1] at nx
    exact nx fun x hx=>by rw[hr] at hx;cases hx
 exact key n 0 (by omega) fun j _ _ h=>absurd h (Nat.not_lt_zero _)
theorem zmN{P:Program}{q:FuncId->Bool}{call:Cal->List AV->za->Option CR}{ops:List Oper}{I:List (Option Nat×Nat)}{env:Arr AV}{base:Nat}{h0:za}{ρ:Nat->Rec}:
  (∀ (i:Nat) (o:Oper),ops[i]?=some o->j1 P q call ops I env base h0 (qk ρ i) o=some (ρ i))->steps P q call ops I env base h0 ops []=some (qk ρ ops.length):=by
 intro h
 have key:∀ (c k:Nat),k+c=ops.length->steps P q call ops I env base h0 (ops.drop k) (qk ρ k)=some (qk ρ ops.length):=by
  intro c
  induction c with
  |zero=>intro k hk;rw[List.drop_of_length_le (by omega),show k=ops.length by omega];rfl
  |succ c ih=>
   intro k hk
   rw[List.drop_eq_getElem_cons (by omega)]
   unfold steps
   rw[h k _ (List.getElem?_eq_getElem (by omega))]
   simp only
   rw[<- zbB]
   exact ih (k+1) (by omega)
 exact key ops.length 0 (by omega)
theorem znI{P:Program}{q:FuncId->Bool}{call:Cal->List AV->za->Option CR}{I:List (Option Nat×Nat)}{env:Arr AV}{vs:List AV}{h0:za}{recs:List Rec}{ops:List Oper}{ρ:Nat->Rec}(hI:I.length=ops.length)
  (h:∀ (i:Nat) (o:Oper) (d:Option Nat) (b:Nat),ops[i]?=some o->I[i]?=some (d,b)->zlO P q call I env vs h0 recs i b o (ρ i)=true):zjt P q call I env vs h0 recs ops I (qk ρ ops.length) 0=true:=by
 have key:∀ (c k:Nat),k+c=ops.length->zjt P q call I env vs h0 recs (ops.drop k) (I.drop k) ((qk ρ ops.length).drop k) k=true:=by
  intro c
  induction c with
  |zero=>intro k hk;rw[List.drop_of_length_le (by omega)];cases I.drop k<;>cases(qk ρ ops.length).drop k<;>rfl
  |succ c ih=>
   intro k hk
   rw[List.drop_eq_getElem_cons (l:=ops) (by omega),List.drop_eq_getElem_cons (l:=I) (by omega),zdQ (by omega)]
   have e:∃ d b,I[k]'(by omega)=(d,b):=⟨_,_,rfl⟩
   obtain⟨d,b,e⟩:=e
   rw[e]
   simp only[zjt,Bool.and_eq_true]
   exact⟨h k _ d b (List.getElem?_eq_getElem (by omega)) (by rw[List.getElem?_eq_getElem (by omega),e]),ih (k+1) (by omega)⟩
 exact key ops.length 0 (by omega)
theorem zjF:∀ {I:List (Option Nat×Nat)} {recs:List Rec} {env:Arr AV},(∀ (k d m:Nat),I[k]?=some (some d,m)->d<env.length)->∃ mf,znQ I recs env=some mf
 | [],recs,env,_=>⟨env,by cases recs<;>rfl⟩
 |(d,m)::I,[],env,_=>⟨env,rfl⟩
 |(d,m)::I,r::rs,env,h=>by
  have:∃ env1,zdT env d r.val=some env1/\env1.length=env.length:=by
   cases d with
   |none=>exact⟨env,rfl,rfl⟩
   |some d=>exact⟨env.set d r.val,by simp only[zdT];rw[if_pos (h 0 d m rfl)],Arr.length_set⟩
  obtain⟨env1,h1,h2⟩:=this
  unfold znQ
  rw[h1]
  exact zjF fun k d m hk=>by rw[h2];exact h (k+1) d m (by simpa using hk)
def Fx(X:Gst)(U:Nat->Prop)(m:Nat):Prop:=m<X.h.length/\¬ U m/\∀ (i v:Nat) (b:SB),X.sh[i]?=some b->X.σ[i]?=some (some (m,v))->b.md≠0
theorem Fx.step{X Y:Gst}{U:Nat->Prop}{m:Nat}(hS:Stp X Y)(h:Fx X U m):Fx Y U m/\Y.h[m]?=X.h[m]?:=by
 refine⟨⟨Nat.lt_of_lt_of_le h.1 hS.fm.len,h.2.1,fun i v b hb ho=>?_⟩,hS.fm.h m h.1 fun i v b hb ho=>h.2.2 i v b hb ho⟩
 obtain⟨v',h1⟩:=hS.fm.new i m v ho h.1
 have hi:i<X.sh.length:=by rw[<- hS.le.shl];exact(List.getElem?_eq_some_iff.1 h1).1
 have h2:=h.2.2 i v' _ (List.getElem?_eq_getElem hi) h1
 obtain⟨b',h3,h4⟩:=hS.fm.md i _ (List.getElem?_eq_getElem hi) h2
 rw[hb] at h3;cases h3;exact h4
theorem zqE{X0 X:Gst}(hS:Stp X0 X){m:Nat}{l:List SV}{l':List AV}{tt:Option TypeId}{mk:Option TypeId}(hk:mk.or tt=tt)(hm0:X0.h.length<=m)(hm:m<X.h.length)(hns:∀ (i v:Nat),X.σ[i]? ≠ some (some (m,v)))(hnΦ:¬ X.Φ m)
  (hrow:X.h[m]?=some (.row l' 0 0 0 false tt)) (hl:RVs X l l'):Stp X0 ⟨X.h,X.Φ,X.σ++[some (m,0)],X.sh++[.cells l 0 mk]⟩/\X.le ⟨X.h,X.Φ,X.σ++[some (m,0)],X.sh++[.cells l 0 mk]⟩:=by
 have hr:=hS.hr
 have hσ:∀ (i:Nat),i<X.σ.length->(X.σ++[some (m,0)])[i]?=X.σ[i]?:=fun i hi=>List.getElem?_append_left hi
 have hle:X.le ⟨X.h,X.Φ,X.σ++[some (m,0)],X.sh++[.cells l 0 mk]⟩:=by
  refine⟨fun m hm=>rfl,fun _ h=>h,by simp,fun loc m v h=>⟨v,?_⟩,fun loc u l k md hl hs=>?_,hr.len⟩
  ·rw[hσ _ (List.getElem?_eq_some_iff.1 h).1];exact h
  ·dsimp only at hs
   rw[List.getElem?_append_left hl] at hs
   exact⟨l,k,md,hs,Nat.le_refl _,fun _=>⟨rfl,hσ _ (by rw[hr.len];exact hl)⟩⟩
 refine⟨⟨Gst.le_trans hS.le hle,⟨by simp [hr.len],fun i j m v v' h1 h2=>?_,fun i m v h1=>?_,hr.Φlt,fun i b' o h1 h2=>?_,fun i m v b' h1 h2 h3=>?_⟩,⟨hS.fm.len,hS.fm.h,fun i b' hb hm=>?_,fun i m v h1 hm=>?_,fun i h=>?_,hS.fm.phi⟩⟩,hle⟩
 ·rcases zC h1 with q1|⟨e1,q1⟩<;>rcases zC h2 with q2|⟨e2,q2⟩
  ·exact hr.inj _ _ _ _ _ q1 q2
  ·cases q2;exact absurd q1 (hns _ _)
  ·cases q1;exact absurd q2 (hns _ _)
  ·exact e1.trans e2.symm
 ·rcases zC h1 with h1|⟨_,h1⟩
  ·exact hr.lt _ _ _ h1
  ·cases h1;exact hm
 ·rcases zC h1 with h1|⟨rfl,rfl⟩
  ·have hi:=(List.getElem?_eq_some_iff.1 h1).1
   dsimp only at h2
   rw[hσ _ (by rw[hr.len];exact hi)] at h2
   exact(hr.blk i b' o h1 h2).le hle fun m v e=>rfl
  ·dsimp only at h2
   rw[<- hr.len,List.getElem?_append_right (Nat.le_refl _)] at h2
   simp at h2;subst h2
   exact⟨m,l',tt,rfl,by rw[hk];exact hrow,hl.le hle⟩
 ·rcases zC h1 with h1|⟨rfl,rfl⟩
  ·have hi:=(List.getElem?_eq_some_iff.1 h1).1
   dsimp only at h2
   rw[hσ _ (by rw[hr.len];exact hi)] at h2
   exact hr.own i m v b' h1 h2 h3
  ·dsimp only at h2
   rw[<- hr.len,List.getElem?_append_right (Nat.le_refl _)] at h2
   simp at h2
   obtain⟨rfl,rfl⟩:=h2
   exact absurd h3 hnΦ
 ·obtain⟨b2,h1,h2⟩:=hS.fm.md i b' hb hm
  exact⟨b2,by show(X.sh++[_])[i]?=_;rw[List.getElem?_append_left (List.getElem?_eq_some_iff.1 h1).1];exact h1,h2⟩
 ·rcases zC h1 with q1|⟨_,q1⟩
  ·exact hS.fm.new i m v q1 hm
  ·cases q1;omega
 ·obtain⟨h1,h2⟩:=hS.fm.gone i h
  have hi:=(List.getElem?_eq_some_iff.1 h1).1
  exact⟨(List.getElem?_append_left hi).trans h1,(hσ _ (by rw[hr.len];exact hi)).trans h2⟩
theorem zhv{X:Gst}{b:SB}{o:Option (Nat×Nat)}{k:Nat}(hk:k≠2)(h:RB X b o):RB X (b.xR k) o:=by
 cases b with
 |cells l md mk=>exact h
 |seq u l n md=>cases o with
  |none=>exact h
  |some p=>obtain⟨m,v⟩:=p;obtain⟨c,mv,tt,h1,h2,h3,_⟩:=h;exact⟨c,mv,tt,h1,h2,h3,fun e=>absurd e hk⟩
 |map ks vs md=>exact h
 |kv u v l md=>exact h
 |loop env id md=>exact h
 |zbm k v it md=>exact h
 |mit l s md=>exact h
 |gone=>exact h
theorem zhY{b:SB}{k:Nat}(hb:b≠.gone):(b.xR k).md=k:=by cases b<;>first|rfl|exact absurd rfl hb
theorem shut{X:Gst}(hr:RH X){loc:Nat}{b:SB}(hb:X.sh[loc]?=some b)(h0:b.md=0):Stp X ⟨X.h,X.Φ,X.σ,X.sh.set loc (b.xR 1)⟩:=by
 have hng:b≠.gone:=fun e=>by rw[e] at h0;cases h0
 have hi:=(List.getElem?_eq_some_iff.1 hb).1
 have ho:X.σ[loc]?=some (X.σ[loc]'(by rw[hr.len];exact hi)):=List.getElem?_eq_getElem _
 refine Stp.turn (b':=b.xR 1) (o':=X.σ[loc]'(by rw[hr.len];exact hi)) hr hb ho hng (fun _ _ _=>rfl) (fun _ _ _=>.inl rfl) (Nat.le_refl _) (fun m=>⟨.inl,fun h=>h.elim id fun h=>by rw[zhY hng] at h;exact absurd h.1 (by omega)⟩) ?_ rfl
  (fun m v e=>⟨hr.lt loc m v (e ▸ ho),.inl ⟨v,e⟩⟩) (fun m v e=>⟨v,e⟩) (fun u l k md e=>?_) (fun h=>absurd h0 h) (fun h=>h.elim (fun h=>by omega) fun h=>absurd h hng) fun hle=>?_
 ·exact(z7 ho).symm
 ·cases b with
  |seq u' l' k' md'=>cases e;exact⟨_,_,md',rfl,Nat.le_refl _,fun _=>⟨rfl,rfl⟩⟩
  |_=>cases e
 ·exact zhv (by omega) ((hr.blk loc b _ hb ho).le hle fun _ _ _=>rfl)
theorem zbC:∀ {h0 h:SH} {i:Nat} {b:SB},h[i]?=some b->∃ b',(qI h0 h)[i]?=some b'/\(b'=b\/(b.md=1/\b'=b.xR 0/\∀ b0,h0[i]?=some b0->b0.md=0))
 | [],[],i,b,h=>by simp at h
 | [],b1::h,0,b,hb=>by
  simp at hb;subst hb
  unfold qI
  split
  ·rename_i e;exact⟨_,rfl,.inr ⟨e,rfl,by simp⟩⟩
  ·exact⟨_,rfl,.inl rfl⟩
 | [],b1::h,i+1,b,hb=>by
  obtain⟨b',h1,h2⟩:=zbC (h0:=[]) (h:=h) (i:=i) (b:=b) (by simpa using hb)
  exact⟨b',by unfold qI;simpa using h1,by simpa using h2⟩
 |b0::h0,b1::h,0,b,hb=>by
  simp at hb;subst hb
  unfold qI
  split
  ·rename_i e1 e2;exact⟨_,rfl,.inr ⟨e2,rfl,fun b0' h=>by simp at h;subst h;exact e1⟩⟩
  ·exact⟨_,rfl,.inl rfl⟩
 |b0::h0,b1::h,i+1,b,hb=>by
  obtain⟨b',h1,h2⟩:=zbC (h0:=h0) (h:=h) (i:=i) (b:=b) (by simpa using hb)
  exact⟨b',by unfold qI;simpa using h1,by simpa using h2⟩
 |_::_,[],i,b,h=>by simp at h
theorem kG:∀ {h0 h:SH},(qI h0 h).length=h.length
 | [],[]=>rfl
 | [],b::h=>by unfold qI;simp [kG (h0:=[]) (h:=h)]
 |b0::h0,b::h=>by unfold qI;simp [kG (h0:=h0) (h:=h)]
 |_::_,[]=>rfl
theorem zpv{X0 X:Gst}(hS:Stp X0 X){h':SH}(hlen:h'.length=X.sh.length)(hrel:∀ (i:Nat) (b:SB),X.sh[i]?=some b->∃ b',h'[i]?=some b'/\(b'=b\/(b.md=1/\b'=b.xR 0/\∀ b0,X0.sh[i]?=some b0->b0.md=0))):
  Stp X0 ⟨X.h,X.Φ,X.σ,h'⟩/\X.le ⟨X.h,X.Φ,X.σ,h'⟩:=by
 have hr:=hS.hr
 have back:∀ {i:Nat} {b':SB},h'[i]?=some b'->∃ b,X.sh[i]?=some b/\(b'=b\/(b.md=1/\b'=b.xR 0/\∀ b0,X0.sh[i]?=some b0->b0.md=0)):=fun {i b'} h=>by
  have hi:i<X.sh.length:=by rw[<- hlen];exact(List.getElem?_eq_some_iff.1 h).1
  obtain⟨b2,h1,h2⟩:=hrel i _ (List.getElem?_eq_getElem hi)
  rw[h] at h1;cases h1
  exact⟨_,List.getElem?_eq_getElem hi,h2⟩
 have hle:X.le ⟨X.h,X.Φ,X.σ,h'⟩:=by
  refine⟨fun m hm=>rfl,fun _ h=>h,Nat.le_refl _,fun loc m v h=>⟨v,h⟩,fun loc u l k md hl hs=>?_,hr.len⟩
  obtain⟨b,h1,rfl|⟨h2,h3,_⟩⟩:=back hs
  ·exact⟨l,k,md,h1,Nat.le_refl _,fun _=>⟨rfl,rfl⟩⟩
  ·cases b<;>cases h3
   exact⟨_,_,_,h1,Nat.le_refl _,fun _=>⟨rfl,rfl⟩⟩
 refine⟨⟨Gst.le_trans hS.le hle,⟨by show X.σ.length=h'.length;rw[hlen,hr.len],hr.inj,hr.lt,hr.Φlt,fun i b' o h1 h2=>?_,fun i m v b' h1 h2 h3=>?_⟩,⟨hS.fm.len,hS.fm.h,fun i b0 hb hm=>?_,hS.fm.new,fun i h=>?_,hS.fm.phi⟩⟩,hle⟩
 ·obtain⟨b,h3,rfl|⟨h4,rfl,_⟩⟩:=back h1
  ·exact(hr.blk i _ o h3 h2).le hle fun _ _ _=>rfl
  ·exact zhv (by omega) ((hr.blk i b o h3 h2).le hle fun _ _ _=>rfl)
 ·obtain⟨b,h4,rfl|⟨h5,rfl,_⟩⟩:=back h1
  ·exact hr.own i m v _ h4 h2 h3
  ·rcases hr.own i m v b h4 h2 h3 with h|rfl
   ·omega
   ·exact .inr rfl
 ·obtain⟨b,h1,h2⟩:=hS.fm.md i b0 hb hm
  obtain⟨b',h3,rfl|⟨_,_,h4⟩⟩:=hrel i b h1
  ·exact⟨_,h3,h2⟩
  ·exact absurd (h4 b0 hb) hm
 ·obtain⟨h1,h2⟩:=hS.fm.gone i h
  obtain⟨b',h3,rfl|⟨_,rfl,_⟩⟩:=hrel i _ h1
  ·exact⟨h3,h2⟩
  ·exact⟨h3,h2⟩
theorem zos{X0 X:Gst}(hS:Stp X0 X):Stp X0 ⟨X.h,X.Φ,X.σ,qI X0.sh X.sh⟩/\X.le ⟨X.h,X.Φ,X.σ,qI X0.sh X.sh⟩:=
 zpv hS kG fun i b hb=>zbC hb
theorem zfJ{h:SH}{loc:Nat}:(zko h loc).length=h.length:=by
 unfold zko
 split
 ·split
  ·rw[List.length_set]
  ·rfl
 ·rfl
theorem zkp{h:SH}{loc i:Nat}{b:SB}(hb:h[i]?=some b):∃ b',(zko h loc)[i]?=some b'/\(b'=b\/(b.md=1/\b'=b.xR 0/\i=loc)):=by
 unfold zko
 split
 ·rename_i b1 hb1
  split
  ·rename_i hm
   by_cases e:i=loc
   ·subst e
    rw[hb] at hb1;cases hb1
    exact⟨b.xR 0,List.getElem?_set_self (List.getElem?_eq_some_iff.1 hb).1,.inr ⟨hm,rfl,rfl⟩⟩
   ·exact⟨b,by rw[List.getElem?_set_ne (Ne.symm e)];exact hb,.inl rfl⟩
  ·exact⟨b,hb,.inl rfl⟩
 ·exact⟨b,hb,.inl rfl⟩
theorem xn{kept:List (Nat×Nat)}:∀ {sl:List (Nat×Nat)} {h:SH},(xj kept sl h).length=h.length
 | [],h=>rfl
 |p::l,h=>by
  unfold xj
  split
  ·exact xn
  ·rw[xn,zfJ]
theorem za3{kept:List (Nat×Nat)}{i:Nat}:∀ {sl:List (Nat×Nat)} {h:SH} {b:SB},h[i]?=some b->∃ b',(xj kept sl h)[i]?=some b'/\(b'=b\/(b.md=1/\b'=b.xR 0/\zbN i kept=false/\∃ p ∈ sl,p.2=i))
 | [],h,b,hb=>⟨b,hb,.inl rfl⟩
 |p::l,h,b,hb=>by
  unfold xj
  split
  ·obtain⟨b',h1,h2⟩:=za3 (sl:=l) hb
   exact⟨b',h1,h2.imp id fun⟨q1,q2,q3,q,q4,q5⟩=>⟨q1,q2,q3,q,List.mem_cons_of_mem _ q4,q5⟩⟩
  ·rename_i hk
   obtain⟨b1,h1,h2⟩:=zkp (loc:=p.2) hb
   obtain⟨b',h3,h4⟩:=za3 (kept:=kept) (sl:=l) h1
   refine⟨b',h3,?_⟩
   rcases h2 with rfl|⟨q1,rfl,q3⟩
   ·exact h4.imp id fun⟨q1,q2,q3,q,q4,q5⟩=>⟨q1,q2,q3,q,List.mem_cons_of_mem _ q4,q5⟩
   ·rcases h4 with rfl|⟨k1,k2,_⟩
    ·exact .inr ⟨q1,rfl,by rw[q3];exact hk,p,List.mem_cons_self,q3.symm⟩
    ·cases b<;>first|(cases k1;done)|(exact .inr ⟨q1,k2,by rw[q3];exact hk,p,List.mem_cons_self,q3.symm⟩)|exact .inl k2
theorem w5{loc:Nat}:∀ {sl:List (Nat×Nat)},zbN loc sl=true↔∃ p ∈ sl,p.2=loc
 | []=>by simp [zbN]
 |p::l=>by
  have ih:=w5 (loc:=loc) (sl:=l)
  simp only[zbN,Bool.or_eq_true,ih,List.mem_cons]
  constructor
  ·rintro(h|⟨q,h1,h2⟩)
   ·exact⟨p,.inl rfl,zb h⟩
   ·exact⟨q,.inr h1,h2⟩
  ·rintro⟨q,rfl|h1,h2⟩
   ·left;rw[h2];exact Nat.beq_refl _
   ·exact .inr ⟨q,h1,h2⟩
theorem zaO{m:Nat}{p:Nat×Nat}:∀ {sl:List (Nat×Nat)},p ∈ j0 m sl↔p ∈ sl/\bit m p.1=false
 | []=>by simp [j0]
 |q::l=>by
  have ih:=zaO (m:=m) (p:=p) (sl:=l)
  unfold j0
  split
  ·rename_i hb
   rw[ih,List.mem_cons]
   exact⟨fun h=>⟨.inr h.1,h.2⟩,fun h=>⟨h.1.resolve_left (fun e=>(by have h2:=h.2;rw[e,hb] at h2;cases h2)),h.2⟩⟩
  ·rename_i hb
   rw[List.mem_cons,ih,List.mem_cons]
   exact⟨fun h=>h.elim (fun e=>⟨.inl e,by rw[e];exact hb⟩) fun h=>⟨.inr h.1,h.2⟩,fun h=>h.1.elim .inl fun h'=>.inr ⟨h',h.2⟩⟩
end Go.Sx
namespace Go.Sx
open Go Go.Gx Go.Mx
variable [qE]
theorem zaQ{P:Program}{op:Op}{t:TypeId}(hk:kindOf P op=.hole t):op=.alloc t:=by
 cases op<;>first
  |(cases hk;rfl)
  |(cases hk;done)
  |(simp only[kindOf] at hk;repeat' split at hk;all_goals (cases hk;done))
def nAl(P:Program):List Oper->Nat
 | []=>0
 |o::l=>match kindOf P o.op with
  |.hole _=>nAl P l+1
  |_=>nAl P l
theorem zev{P:Program}{o:Oper}:∀ {l:List Oper},nAl P (l++[o])=match kindOf P o.op with|.hole _=>nAl P l+1|_=>nAl P l
 | []=>by rfl
 |a::l=>by
  have ih:=zev (P:=P) (o:=o) (l:=l)
  rw[List.cons_append]
  show(match kindOf P a.op with|.hole _=>nAl P (l++[o])+1|_=>nAl P (l++[o]))=_
  rw[ih]
  show _=(match kindOf P o.op with|.hole _=>(match kindOf P a.op with|.hole _=>nAl P l+1|_=>nAl P l)+1|_=>(match kindOf P a.op with|.hole _=>nAl P l+1|_=>nAl P l))
  cases kindOf P a.op<;>cases kindOf P o.op<;>rfl
theorem znd{P:Program}:∀ {a b:List Oper},nAl P a<=nAl P (a++b)
 | [],b=>Nat.zero_le _
 |o::a,b=>by
  have ih:=znd (P:=P) (a:=a) (b:=b)
  rw[List.cons_append]
  show(match kindOf P o.op with|.hole _=>nAl P a+1|_=>nAl P a)<=(match kindOf P o.op with|.hole _=>nAl P (a++b)+1|_=>nAl P (a++b))
  cases kindOf P o.op<;>simp only<;>omega
theorem zf5{α:Type}{l:List α}{i:Nat}{o:α}(h:l[i]?=some o):l.take (i+1)=l.take i++[o]:=by
 rw[List.take_add_one,h];rfl
theorem zne{P:Program}{l:List Oper}{i j:Nat}{o:Oper}{t:TypeId}(hi:l[i]?=some o)(hk:kindOf P o.op=.hole t)(hj:i<j):nAl P (l.take i)<nAl P (l.take j):=by
 have h1:l.take j=l.take (i+1)++(l.take j).drop (i+1):=by
  have:=List.take_append_drop (i+1) (l.take j)
  rw[List.take_take,Nat.min_eq_left (by omega)] at this
  exact this.symm
 have h2:=znd (P:=P) (a:=l.take (i+1)) (b:=(l.take j).drop (i+1))
 rw[<- h1,zf5 hi,zev,hk] at h2
 exact h2
theorem ky{P:Program}:∀ {l:List Oper} {hs:List Blk} {i:Nat} {o:Oper} {t:TypeId},qM P l=some hs->l[i]?=some o->kindOf P o.op=.hole t ->
  ∃ z,zeroOf P t=some z/\hs[nAl P (l.take i)]?=some (.row z.cells 0 0 0 false (some t))
 | [],hs,i,o,t,_,hi,_=>by simp at hi
 |a::l,hs,i,o,t,h,hi,hk=>by
  unfold qM at h
  split at h
  ·rename_i t' bs hop hbs
   split at h
   ·rename_i z hz
    cases h
    cases i with
    |zero=>
     simp at hi;subst hi
     have:=zaQ hk
     rw[hop] at this;cases this
     exact⟨z,hz,rfl⟩
    |succ i=>
     obtain⟨z',h1,h2⟩:=ky hbs (by simpa using hi) hk
     refine⟨z',h1,?_⟩
     have e:kindOf P a.op=.hole t':=by rw[hop];rfl
     rw[List.take_succ_cons]
     show(_::bs)[(match kindOf P a.op with|.hole _=>nAl P (l.take i)+1|_=>nAl P (l.take i))]?=_
     rw[e]
     simpa using h2
   ·cases h
  ·rename_i hno
   cases i with
   |zero=>
    simp at hi;subst hi
    have:=zaQ hk
    cases hh:qM P l with
    |none=>rw[hh] at h;cases h
    |some bs=>exact absurd hh (hno t bs this)
   |succ i=>
    obtain⟨z',h1,h2⟩:=ky h (by simpa using hi) hk
    refine⟨z',h1,?_⟩
    have e:∀ t',kindOf P a.op≠.hole t':=fun t' hk'=>by
     cases hh:qM P l with
     |none=>rw[hh] at h;cases h
     |some bs=>exact hno t' bs (zaQ hk') hh
    rw[List.take_succ_cons]
    show hs[(match kindOf P a.op with|.hole _=>nAl P (l.take i)+1|_=>nAl P (l.take i))]?=_
    cases hka:kindOf P a.op with
    |hole t'=>exact absurd hka (e t')
    |_=>exact h2
theorem zji{b:Nat}{ρ:Nat->Rec}:∀ {n:Nat},(∀ j,j<n->(ρ j).hp≠none->bit b j=true)->kL b 0 (qk ρ n)=true:=by
 have key:∀ (l:List Rec) (k:Nat),(∀ (j:Nat) (r:Rec),l[j]?=some r->r.hp≠none->bit b (k+j)=true)->kL b k l=true:=by
  intro l
  induction l with
  |nil=>intro k _;rfl
  |cons r l ih=>
   intro k h
   have rest:=ih (k+1) fun j r' hj hn=>by rw[show k+1+j=k+(j+1) by omega];exact h (j+1) r' (by simpa using hj) hn
   cases r with
   |act v h'=>
    have h0:=h 0 _ rfl (by simp [Rec.hp])
    rw[Nat.add_zero] at h0
    simp only[kL,h0,rest,Bool.and_self]
   |_=>exact rest
 intro n h
 refine key _ 0 fun j r hj hn=>?_
 have hlt:j<n:=by have:=(List.getElem?_eq_some_iff.1 hj).1;rwa [zV] at this
 rw[za4 hlt] at hj;cases hj
 rw[Nat.zero_add];exact h j hlt hn
theorem zfG{P:Program}{l:List Oper}{ρ:Nat->Rec}:∀ {n:Nat},n<=l.length->(∀ (k:Nat) (o:Oper),l[k]?=some o->((∃ t,kindOf P o.op=.hole t)↔∃ a c,ρ k=.hole a c))->wC (qk ρ n)=nAl P (l.take n)
 |0,_,_=>rfl
 |n+1,hn,h=>by
  have ho:l[n]?=some (l[n]'(by omega)):=List.getElem?_eq_getElem (by omega)
  rw[zbB,kD,zfG (by omega) h,zf5 ho,zev]
  have:=h n _ ho
  cases hk:kindOf P (l[n]'(by omega)).op with
  |hole t=>
   obtain⟨a,c,e⟩:=this.1 ⟨t,hk⟩
   rw[e];rfl
  |quiet=>
   cases e:ρ n with
   |hole a c=>obtain⟨t,e2⟩:=this.2 ⟨a,c,e⟩;rw[hk] at e2;cases e2
   |_=>rfl
  |act=>
   cases e:ρ n with
   |hole a c=>obtain⟨t,e2⟩:=this.2 ⟨a,c,e⟩;rw[hk] at e2;cases e2
   |_=>rfl
section
variable (P:Program) (gl:GL) (ct:CT) (hk:qc) (l:List Oper) (env0:Arr AV) (X0:Gst) (hs:List Blk)
abbrev H0(X0:Gst)(hs:List Blk):za:=X0.h++hs
def mH(P:Program)(l:List Oper)(X0:Gst)(i:Nat):Nat:=X0.h.length+nAl P (l.take i)
def UD(P:Program)(l:List Oper)(X0:Gst)(D:Nat)(m:Nat):Prop:=∃ (i:Nat) (o:Oper) (t:TypeId),l[i]?=some o/\kindOf P o.op=.hole t/\bit D i=false/\m=mH P l X0 i
structure DI(ρ:Nat->Rec)(D:Nat)(X:Gst)(st:SS)(me:Arr AV):Prop where
 stp:Stp X0 X
 env:RVs X st.env me.toL
 sh:X.sh=st.h
 hh:X.h=hF ρ (H0 X0 hs) l.length
 off:∀ k,bit D k=false->ρ k=.off
 e2:∀ (k t m:Nat),(infos l [])[k]?=some (some t,m)->bit D k=true->me[t]?=some (ρ k).val
 e3:∀ (t:Nat),(∀ (k m:Nat),(infos l [])[k]?=some (some t,m)->bit D k=false)->me[t]?=env0[t]?
 dl:∀ (k t m:Nat),(infos l [])[k]?=some (some t,m)->bit D k=true->t<me.length
 ml:me.length=env0.length
 cl:∀ (k:Nat) (d:Option Nat) (m:Nat),(infos l [])[k]?=some (d,m)->bit D k=true->∀ j,bit m j=true->bit D j=true/\j<k
 ai:∀ (k k':Nat),bit (zQ P l 0) k=true->bit (zQ P l 0) k'=true->k<k'->bit D k'=true->bit D k=true
 rk:∀ k,(ρ k).hp≠none->bit (zQ P l 0) k=true
 hk:∀ (k:Nat) (o:Oper),l[k]?=some o->bit D k=true->((∃ t,kindOf P o.op=.hole t)↔∃ a c,ρ k=.hole a c)
 un:∀ (i:Nat) (o:Oper) (t:TypeId),l[i]?=some o->kindOf P o.op=.hole t->bit D i=false ->
  mH P l X0 i<X.h.length/\(∀ (j v:Nat),X.σ[j]? ≠ some (some (mH P l X0 i,v)))/\¬ X.Φ (mH P l X0 i)/\∀ k,k<=l.length->(hF ρ (H0 X0 hs) k)[mH P l X0 i]?=hs[nAl P (l.take i)]?
def hold(l:List Oper)(ρ':Nat->Rec)(D k i:Nat):Prop:=∀ (a:Nat) (d:Option Nat) (m:Nat),a<k->(infos l [])[a]?=some (d,m)->(ρ' a).hp≠none->bit D a=false->bit m i=false
def FxK(P:Program)(l:List Oper)(X0:Gst)(ρ':Nat->Rec)(D:Nat)(X:Gst)(sl:List (Nat×Nat))(k m:Nat):Prop:=X.Φ m\/(Fx X (UD P l X0 D) m /\
 ∀ (loc v:Nat) (b:SB),X.σ[loc]?=some (some (m,v))->X.sh[loc]?=some b->b≠.gone->(∃ p ∈ sl,p.2=loc)->∃ p ∈ sl,p.2=loc/\hold l ρ' D k p.1)
def Fut(ρ':Nat->Rec)(D:Nat)(X:Gst)(sl:List (Nat×Nat)):Prop:=∀ k,k<=l.length->(∀ j,bit (zQ P l 0) j=true->bit D j=true->j<k)->∀ m,FxK P l X0 ρ' D X sl k m->(hF ρ' (H0 X0 hs) k)[m]?=X.h[m]?
def zlL(X0:Gst)(sl:List (Nat×Nat)):Prop:=∀ p ∈ sl,∀ b0,X0.sh[p.2]?=some b0->b0.md=0
def St1(ρ':Nat->Rec)(i:Nat):Prop:=∀ (o:Oper) (d:Option Nat) (b:Nat),l[i]?=some o->(infos l [])[i]?=some (d,b) ->
 Ev (fun f=>j1 P noQ (qy P hk (qQ P hk f)) l (infos l []) env0 X0.h.length (H0 X0 hs) (qk ρ' i) o=some (ρ' i)) /\
 ∀ call,zlO P noQ call (infos l []) env0 ((qk ρ' l.length).map Rec.val) (H0 X0 hs) (qk ρ' l.length) i b o (ρ' i)=true
def Rs1{R:Type}(ρ:Nat->Rec)(D:Nat)(X:Gst)(sl:List (Nat×Nat))(K:SS->Option R)(r:R):Prop:=
 ∃ st' Y me' ρ' D',K st'=some r/\DI P l env0 X0 hs ρ' D' Y st' me'/\(∀ k,k<l.length->bit D' k=true)/\Stp X0 Y/\(∀ k,bit D k=true->ρ' k=ρ k)/\Fut P l X0 hs ρ' D X sl/\∀ i,i<l.length->bit D i=false->St1 P hk l env0 X0 hs ρ' i
end
section
variable {P:Program} {gl:GL} {ct:CT} {hk:qc} {l:List Oper} {env0:Arr AV} {X0:Gst} {hs:List Blk}
variable {ρ ρ':Nat->Rec} {D D':Nat} {X Y:Gst} {st st':SS} {me me':Arr AV}
theorem zgz(hI:DI P l env0 X0 hs ρ D X st me)(hρ:∀ k,bit D k=true->ρ' k=ρ k){k:Nat}(hl:∀ j,j<k->(ρ' j).hp≠none->bit D j=true):hF ρ' (H0 X0 hs) k=hF ρ (H0 X0 hs) k:=by
 refine zaM fun j hj=>?_
 cases hd:bit D j with
 |true=>rw[hρ j hd]
 |false=>
  rw[hI.off j hd]
  cases e:(ρ' j).hp with
  |none=>rfl
  |some x=>have:=hl j hj (by rw[e];simp);rw[hd] at this;cases this
theorem zjK(hI:DI P l env0 X0 hs ρ D X st me){k:Nat}(hk:k<=l.length)(hD:∀ j,bit (zQ P l 0) j=true->bit D j=true->j<k):hF ρ (H0 X0 hs) k=X.h:=by
 rw[hI.hh]
 refine(zjJ (fun j h1 h2=>?_) hk).symm
 cases e:(ρ j).hp with
 |none=>rfl
 |some x=>
  have ha:=hI.rk j (by rw[e];simp)
  cases hd:bit D j with
  |true=>have:=hD j ha hd;omega
  |false=>rw[hI.off j hd] at e;cases e
theorem zqF{k:Nat}(h:bit (zQ P l 0) k=true):k<l.length:=by
 obtain⟨j,o,e,h1,_⟩:=zbh.1 h
 rw[Nat.zero_add] at e;subst e
 exact(List.getElem?_eq_some_iff.1 h1).1
theorem zcC{k:Nat}{o:Oper}(ho:l[k]?=some o):bit (zQ P l 0) k=true↔kindOf P o.op=.act:=by
 rw[zbh]
 constructor
 ·rintro⟨j,o',e,h1,h2⟩
  rw[Nat.zero_add] at e;subst e
  rw[ho] at h1;cases h1;exact h2
 ·exact fun h=>⟨k,o,(Nat.zero_add k).symm,ho,h⟩
theorem zjN{k:Nat}{o:Oper}(ho:l[k]?=some o):bit (qP P l 0) k=true↔∃ t,kindOf P o.op=.hole t:=by
 rw[zdF]
 constructor
 ·rintro⟨j,o',t,e,h1,h2⟩
  rw[Nat.zero_add] at e;subst e
  rw[ho] at h1;cases h1;exact⟨t,h2⟩
 ·exact fun⟨t,h⟩=>⟨k,o,t,(Nat.zero_add k).symm,ho,h⟩
theorem Fut.end_(hI:DI P l env0 X0 hs ρ D X st me){sl:List (Nat×Nat)}(hall:∀ k,k<l.length->bit D k=true):Fut P l X0 hs ρ D X sl:=by
 intro k hk hD m _
 rw[zjK hI hk hD]
theorem DI.put(hI:DI P l env0 X0 hs ρ D X st me)(hdst:zah (infos l [])=true){i b:Nat}{o:Oper}(ho:l[i]?=some o)(hi:(infos l [])[i]?=some (o.dst,b))(hok:OkK (infos l []) (zQ P l 0) (qP P l 0) D i b)
  {r:Rec} {X1:Gst} {env env1:List SV} {v:SV} {h1:SH} (S1:Stp X0 X1) (hle:X.le X1) (hsh:X1.sh=h1) (hh:X1.h=match r.hp with|some h'=>h' | none=>X.h) (hra:r.hp≠none->kindOf P o.op=.act)
  (hrh:(∃ t,kindOf P o.op=.hole t)↔∃ a c,r=.hole a c) (hen:env=st.env) (hv:RV X1 v r.val) (hset:jH env o.dst v=some env1)
  (hun:∀ (j:Nat) (o':Oper) (t:TypeId),l[j]?=some o'->kindOf P o'.op=.hole t->bit D j=false->j≠i->X1.h[mH P l X0 j]?=X.h[mH P l X0 j]? /\ mH P l X0 j<X1.h.length/\(∀ (k v:Nat),X1.σ[k]? ≠ some (some (mH P l X0 j,v)))/\¬ X1.Φ (mH P l X0 j)):
  ∃ me1,DI P l env0 X0 hs (fun k=>if k=i then r else ρ k) (D ||| (1 <<< i)) X1 ⟨env1,h1⟩ me1:=by
 subst hen
 obtain⟨me1,hm1,hm2⟩:=zbE (hI.env.le hle) hv hset
 have hbi:∀ k,bit (D ||| (1 <<< i)) k=true↔bit D k=true\/i=k:=fun k=>by rw[wo];simp
 have hbf:∀ k,bit (D ||| (1 <<< i)) k=false↔bit D k=false/\i≠k:=fun k=>by rw[wo];simp
 have hil:=(List.getElem?_eq_some_iff.1 ho).1
 have hml:me1.length=me.length/\(∀ t,o.dst=some t->t<me.length/\me1[t]?=some r.val)/\∀ t,o.dst≠some t->me1[t]?=me[t]?:=by
  cases hd:o.dst with
  |none=>rw[hd] at hm1;cases hm1;exact⟨rfl,fun t e=>(by cases e),fun t _=>rfl⟩
  |some t0=>
   rw[hd] at hm1
   simp only[zdT] at hm1
   split at hm1
   ·rename_i hlt
    cases hm1
    refine⟨Arr.length_set,fun t e=>?_,fun t e=>?_⟩
    ·cases e;exact⟨hlt,by rw[Arr.zw,if_pos rfl,if_pos hlt]⟩
    ·rw[Arr.zw,if_neg (fun h=>e (by rw[h]))]
   ·cases hm1
 refine⟨me1,S1,hm2,hsh,?_,fun k hk=>?_,fun k t m hk hb=>?_,fun t ht=>?_,fun k t m hk hb=>?_,hml.1.trans hI.ml,fun k d m hk hb j hj=>?_,fun k k' ha ha' hlt hb=>?_,fun k hk=>?_,fun k o' hk hb=>?_,fun j o' t hj hkj hb=>?_⟩
 ·rw[hh]
  cases hr:r.hp with
  |none=>
   simp only
   rw[hI.hh]
   refine zaM fun k _=>?_
   split
   ·rename_i e;rw[e,hI.off i hok.new,hr];rfl
   ·rfl
  |some h'=>
   simp only
   have hact:=(zcC ho).2 (hra (by rw[hr];simp))
   refine(zph (i:=i) (by simp only[if_pos trivial];exact hr) hil fun k h1 h2=>?_).symm
   rw[if_neg (by omega)]
   cases e:(ρ k).hp with
   |none=>rfl
   |some x=>
    have ha:=hI.rk k (by rw[e];simp)
    cases hd:bit D k with
    |true=>have:=((hok.act hact).2 k ha).1 hd;omega
    |false=>rw[hI.off k hd] at e;cases e
 ·obtain⟨h1,h2⟩:=(hbf k).1 hk
  rw[if_neg (Ne.symm h2)];exact hI.off k h1
 ·by_cases e:k=i
  ·subst e
   rw[hi] at hk
   rw[if_pos rfl]
   exact(hml.2.1 t (by injection hk with hk;injection hk)).2
  ·rw[if_neg e,hml.2.2 t fun hd=>e (qf hdst k i t m b hk (by rw[hi,hd]))]
   exact hI.e2 k t m hk (((hbi k).1 hb).resolve_right (Ne.symm e))
 ·have hne:o.dst≠some t:=fun hd=>by
   have:=(hbf i).1 (ht i b (by rw[hi,hd]))
   exact this.2 rfl
  rw[hml.2.2 t hne]
  exact hI.e3 t fun k m hk=>((hbf k).1 (ht k m hk)).1
 ·rw[hml.1]
  by_cases e:k=i
  ·subst e
   rw[hi] at hk
   exact(hml.2.1 t (by injection hk with hk;injection hk)).1
  ·exact hI.dl k t m hk (((hbi k).1 hb).resolve_right (Ne.symm e))
 ·rw[hbi]
  by_cases e:k=i
  ·subst e
   rw[hi] at hk;cases hk
   exact⟨.inl (hok.sub j hj),hok.low j hj⟩
  ·obtain⟨c1,c2⟩:=hI.cl k d m hk (((hbi k).1 hb).resolve_right (Ne.symm e)) j hj
   exact⟨.inl c1,c2⟩
 ·rw[hbi]
  rcases(hbi k').1 hb with h|rfl
  ·exact .inl (hI.ai k k' ha ha' hlt h)
  ·exact .inl (((hok.act ha').2 k ha).2 hlt)
 ·split at hk
  ·rename_i e;rw[e];exact(zcC ho).2 (hra hk)
  ·exact hI.rk k hk
 ·by_cases e:k=i
  ·subst e
   rw[ho] at hk;cases hk
   rw[if_pos rfl];exact hrh
  ·rw[if_neg e]
   exact hI.hk k o' hk (((hbi k).1 hb).resolve_right (Ne.symm e))
 ·obtain⟨h2,h3⟩:=(hbf j).1 hb
  obtain⟨q1,q2,q3,q4⟩:=hun j o' t hj hkj h2 (Ne.symm h3)
  obtain⟨_,_,_,p4⟩:=hI.un j o' t hj hkj h2
  refine⟨q2,q3,q4,fun k hkl=>?_⟩
  cases hr:r.hp with
  |none=>
   rw[<- p4 k hkl]
   congr 1
   refine zaM fun k _=>?_
   split
   ·rename_i e;rw[e,hI.off i hok.new,hr];rfl
   ·rfl
  |some h'=>
   have hact:=(zcC ho).2 (hra (by rw[hr];simp))
   have hpast:∀ k',i<k'->k'<=l.length->hF (fun k=>if k=i then r else ρ k) (H0 X0 hs) k'=h':=fun k' h4 h5=>by
    refine zph (i:=i) (by simp only[if_pos trivial];exact hr) h4 fun k h1 h2=>?_
    rw[if_neg (by omega)]
    cases e:(ρ k).hp with
    |none=>rfl
    |some x=>
     have ha:=hI.rk k (by rw[e];simp)
     cases hd:bit D k with
     |true=>have:=((hok.act hact).2 k ha).1 hd;omega
     |false=>rw[hI.off k hd] at e;cases e
   by_cases hik:i<k
   ·rw[hpast k hik hkl]
    rw[hr] at hh
    simp only at hh
    rw[<- hh,q1,hI.hh]
    exact p4 _ (Nat.le_refl _)
   ·rw[<- p4 k hkl]
    congr 1
    refine zaM fun k2 hk2=>?_
    rw[if_neg (by omega)]
def emD(P:Program)(gl:GL)(I:List (Option Nat×Nat))(env:List SV)(me:Arr AV)(h:za)(i b:Nat)(x:Operand):Option AV:=match zhZ gl I env i b x with
 |some _=>mev P me h x
 |none=>none
theorem zai{I:List (Option Nat×Nat)}{env:List SV}{i b:Nat}(he:RVs X env me.toL)(hg:RGl P gl X):EvR X (zhZ gl I env i b) (emD P gl I env me X.h i b):=by
 intro x v h
 have:sev gl env x=some v:=by
  cases x with
  |tmp t=>simp only[zhZ] at h;split at h<;>first|exact h|cases h
  |_=>exact h
 obtain⟨y,h1,h2⟩:=zc6 he hg this
 exact⟨y,by simp only[emD,h];exact h1,h2⟩
theorem zm5(hI:DI P l env0 X0 hs ρ D X st me)(hg:RGl P gl X)(hdst:zah (infos l [])=true){i b:Nat}(hok:OkK (infos l []) (zQ P l 0) (qP P l 0) D i b){vs:List AV}(hv:∀ j,bit b j=true->vs[j]?=some (ρ j).val){h:za}
  (hh:∀ m,X.Φ m->h[m]?=X.h[m]?):∀ x v,emD P gl (infos l []) st.env me X.h i b x=some v->evD P (infos l []) env0 vs i b h x=some v:=by
 intro x v hx
 unfold emD at hx
 split at hx
 ·rename_i w hw
  cases x with
  |tmp t=>
   simp only[zhZ] at hw
   split at hw
   ·rename_i ht
    have ht:=zey ht
    simp only[evD]
    by_cases hex:∃ (j m:Nat),(infos l [])[j]?=some (some t,m)
    ·obtain⟨j,m,hj⟩:=hex
     rw[zcU hj fun j' m' h'=>qf hdst j' j t m' m h' hj,Nat.zero_add]
     have hjd:=ht j m hj
     rw[Nat.zero_add] at hjd
     cases hb:bit b j with
     |true=>
      simp only
      rw[hv j hb,<- hI.e2 j t m hj (hok.sub j hb)]
      exact hx
     |false=>
      rw[hb] at hjd
      have hm:bit m i=true:=hjd.resolve_left (by simp)
      simp only[hm]
      rw[<- hI.e3 t fun k m' hk=>?_]
      ·exact hx
      ·have e:=qf hdst k j t m' m hk hj
       subst e
       rw[hj] at hk;cases hk
       cases hd:bit D k with
       |false=>rfl
       |true=>have:=(hI.cl k _ m hj hd i hm).1;rw[hok.new] at this;cases this
    ·rw[zbl fun j m hj=>hex ⟨j,m,hj⟩,<- hI.e3 t fun k m hk=>absurd ⟨k,m,hk⟩ hex]
     exact hx
   ·cases hw
  |const c=>exact hx
  |global g=>
   simp only[zhZ,sev] at hw
   split at hw
   ·rename_i cs hcs
    obtain⟨h1,h2,cells,h3,h4⟩:=hg g cs hcs
    simp only[evD,mev] at hx |-
    rw[hh g h2];exact hx
   ·cases hw
  |func f=>exact hx
 ·cases hx
theorem zga{ρ':Nat->Rec}(hρ:∀ k,bit D k=true->ρ' k=ρ k){i b n:Nat}(hok:OkK (infos l []) (zQ P l 0) (qP P l 0) D i b)(hin:i<=n):∀ j,bit b j=true->((qk ρ' n).map Rec.val)[j]?=some (ρ j).val:=by
 intro j hj
 have:=hok.low j hj
 rw[List.getElem?_map,za4 (by omega),hρ j (hok.sub j hj)];rfl
theorem zgx(hI:DI P l env0 X0 hs ρ D X st me){j t:Nat}{c:Bool}(h:znT l st.env j=some (t,c))(hj:bit D j=true):(∃ q,l[j]?=some q/\q.dst=some t)/\(ρ j).val=.bool c/\sset st.env t (.a (.bool c))=st.env:=by
 unfold znT at h
 split at h
 ·rename_i q hq
  split at h
  ·rename_i t' ht
   split at h
   ·rename_i b' hb
    cases h
    rw[xq] at hb
    rw[zhm]
    obtain⟨x,h1,h2⟩:=hI.env.get hb
    cases(show x=_ from h2)
    obtain⟨m,h3,_⟩:=jt hq
    rw[ht] at h3
    have h4:=hI.e2 j t m h3 hj
    rw[<- Arr.zS,h1] at h4
    exact⟨⟨q,hq,ht⟩,(Option.some.inj h4).symm,z7 hb⟩
   ·cases h
  ·cases h
 ·cases h
theorem zim{o:Option SV}(h:zfi o=true):∃ l,o=some (.tup l):=by
 unfold zfi at h
 split at h
 ·exact⟨_,rfl⟩
 ·cases h
theorem zfd(hI:DI P l env0 X0 hs ρ D X st me){j:Nat}(h:zii l st.env j=true)(hj:bit D j=true):∃ q t vs,l[j]?=some q/\q.dst=some t/\(ρ j).val=.tup vs:=by
 unfold zii at h
 split at h
 ·rename_i q hq
  split at h
  ·rename_i t ht
   obtain⟨vs,hl⟩:=zim h
   rw[xq] at hl
   obtain⟨x,h1,h2⟩:=hI.env.get hl
   obtain⟨l',rfl,_⟩:=h2
   obtain⟨m,h3,_⟩:=jt hq
   rw[ht] at h3
   have h4:=hI.e2 j t m h3 hj
   rw[<- Arr.zS,h1] at h4
   exact⟨q,t,l',hq,ht,(Option.some.inj h4).symm⟩
  ·cases h
 ·cases h
theorem zi5{o:Oper}{b j t:Nat}{w:Bool}{vs l':List AV}(h:o.guard=some (j,w))(hb:bit b j=true){q:Oper}(hq:l[j]?=some q)(hd:q.dst=some t)(hv:vs[j]?=some (.tup l')):zck l o b vs=some false:=by
 simp only[zck,h,hb,hq,hv,hd,isB]
 cases w<;>rfl
theorem zi4{o:Oper}{b:Nat}{vs:List AV}(h:o.guard=none):zck l o b vs=some true:=by simp only[zck,h]
theorem zi6{o:Oper}{b j t:Nat}{w c:Bool}{vs:List AV}(h:o.guard=some (j,w))(hb:bit b j=true){q:Oper}(hq:l[j]?=some q)(hd:q.dst=some t)(hv:vs[j]?=some (.bool c)):zck l o b vs=some (c==w):=by
 simp only[zck,h,hb,hq,hv,hd,isB]
 cases c<;>cases w<;>rfl
theorem Rs1.join{R:Type}{K:SS->Option R}{r0:R}(hI:DI P l env0 X0 hs ρ D X st me){i b:Nat}{o:Oper}(ho:l[i]?=some o)(hok:OkK (infos l []) (zQ P l 0) (qP P l 0) D i b){r:Rec}{X1:Gst}
  {sl sl1:List (Nat×Nat)} (hfx:∀ (ρ':Nat->Rec) (k m:Nat),ρ' i=r->(r.hp≠none->i<k)->FxK P l X0 ρ' D X sl k m->FxK P l X0 ρ' (D ||| (1 <<< i)) X1 sl1 k m/\X1.h[m]?=X.h[m]?)
  (hi:∀ ρ' Y st' me' D',DI P l env0 X0 hs ρ' D' Y st' me'->(∀ k,k<l.length->bit D' k=true)->(∀ k,bit D k=true->ρ' k=ρ k)->ρ' i=r->Fut P l X0 hs ρ' (D ||| (1 <<< i)) X1 sl1->St1 P hk l env0 X0 hs ρ' i)
  (H:Rs1 P hk l env0 X0 hs (fun k=>if k=i then r else ρ k) (D ||| (1 <<< i)) X1 sl1 K r0) (hra:r.hp≠none->kindOf P o.op=.act):Rs1 P hk l env0 X0 hs ρ D X sl K r0:=by
 obtain⟨st',Y,me',ρ',D',h1,h2,h3,h4,h5,h6,h7⟩:=H
 have hρ:∀ k,bit D k=true->ρ' k=ρ k:=fun k hk=>by
  have:k≠i:=fun e=>by rw[e,hok.new] at hk;cases hk
  have h8:ρ' k=if k=i then r else ρ k:=h5 k (by rw[wo,hk];rfl)
  rwa [if_neg this] at h8
 have hρi:ρ' i=r:=by
  have h8:ρ' i=if i=i then r else ρ i:=h5 i (by rw[wo];simp)
  rwa [if_pos rfl] at h8
 refine⟨st',Y,me',ρ',D',h1,h2,h3,h4,hρ,fun k hk hD m hm=>?_,fun j hj hd=>?_⟩
 ·have go:(r.hp≠none->i<k)->(∀ j,bit (zQ P l 0) j=true->bit (D ||| (1 <<< i)) j=true->j<k)->(hF ρ' (H0 X0 hs) k)[m]?=X.h[m]?:=fun hik hD'=>by
   obtain⟨hf1,hf2⟩:=hfx ρ' k m hρi hik hm
   exact(h6 k hk hD' m hf1).trans hf2
  cases ha:bit (zQ P l 0) i with
  |false=>
   refine go (fun hne=>by have:=(zcC ho).2 (hra hne);rw[ha] at this;cases this) fun j h8 h9=>?_
   rw[wo] at h9
   simp only[Bool.or_eq_true,decide_eq_true_eq] at h9
   rcases h9 with h9|rfl
   ·exact hD j h8 h9
   ·rw[ha] at h8;cases h8
  |true=>
   by_cases hik:i<k
   ·refine go (fun _=>hik) fun j h8 h9=>?_
    rw[wo] at h9
    simp only[Bool.or_eq_true,decide_eq_true_eq] at h9
    rcases h9 with h9|rfl
    ·exact hD j h8 h9
    ·exact hik
   ·rw[zgz hI hρ fun j hj hne=>((hok.act ha).2 j (h2.rk j hne)).2 (by omega),zjK hI hk hD]
 ·by_cases e:j=i
  ·subst e;exact hi ρ' Y st' me' D' h2 h3 hρ hρi h6
  ·exact h7 j hj (by rw[wo,hd];simpa using Ne.symm e)
theorem UD.put{i m:Nat}(h:UD P l X0 (D ||| (1 <<< i)) m):UD P l X0 D m:=by
 obtain⟨j,o,t,h1,h2,h3,h4⟩:=h
 rw[wo] at h3
 simp only[Bool.or_eq_false_iff] at h3
 exact⟨j,o,t,h1,h2,h3.1,h4⟩
theorem DI.zlv(hI:DI P l env0 X0 hs ρ D X st me){X1:Gst}(S:Stp X X1){j:Nat}{o':Oper}{t:TypeId}(hj:l[j]?=some o')(hk:kindOf P o'.op=.hole t)(hd:bit D j=false):
  X1.h[mH P l X0 j]?=X.h[mH P l X0 j]? /\ mH P l X0 j<X1.h.length/\(∀ (k v:Nat),X1.σ[k]? ≠ some (some (mH P l X0 j,v)))/\¬ X1.Φ (mH P l X0 j):=by
 obtain⟨h1,h2,h3,_⟩:=hI.un j o' t hj hk hd
 refine⟨S.fm.h _ h1 fun i v b _ hs=>absurd hs (h2 i v),Nat.lt_of_lt_of_le h1 S.fm.len,fun k v hs=>?_,fun hΦ=>?_⟩
 ·obtain⟨v',h4⟩:=S.fm.new k _ v hs h1
  exact h2 k v' h4
 ·rcases S.fm.phi _ h1 hΦ with h|⟨i,v,b,_,h4,_⟩
  ·exact h3 h
  ·exact h2 i v h4
theorem hold.put{ρ':Nat->Rec}{k i j:Nat}(h:hold l ρ' D k j):hold l ρ' (D ||| (1 <<< i)) k j:=fun a d m h1 h2 h3 h4=>h a d m h1 h2 h3 (by
 rw[wo] at h4
 simp only[Bool.or_eq_false_iff] at h4
 exact h4.1)
theorem Fx.put{X1:Gst}(S:Stp X X1){i m:Nat}(h:Fx X (UD P l X0 D) m):Fx X1 (UD P l X0 (D ||| (1 <<< i))) m/\X1.h[m]?=X.h[m]?:=by
 obtain⟨h1,h2⟩:=Fx.step S h
 exact⟨⟨h1.1,fun hU=>h1.2.1 (UD.put hU),h1.2.2⟩,h2⟩
theorem FxK.put{X1:Gst}{sl:List (Nat×Nat)}{ρ':Nat->Rec}(S:Stp X X1){i k m:Nat}(h:FxK P l X0 ρ' D X sl k m):FxK P l X0 ρ' (D ||| (1 <<< i)) X1 sl k m/\X1.h[m]?=X.h[m]?:=by
 rcases h with h|h
 ·exact⟨.inl (S.le.Φ m h),S.le.h m h⟩
 obtain⟨h1,h2⟩:=Fx.put (i:=i) S h.1
 refine⟨.inr ⟨h1,fun loc v b hs hb hg hx=>?_⟩,h2⟩
 obtain⟨v',hs'⟩:=S.fm.new loc m v hs h.1.1
 have hi:loc<X.sh.length:=by rw[<- S.le.shl];exact(List.getElem?_eq_some_iff.1 hs').1
 have hb':=List.getElem?_eq_getElem hi
 by_cases hgn:(X.sh[loc]'hi)=.gone
 ·have:=(S.fm.gone loc (hb'.trans (by rw[hgn]))).1
  rw[hb] at this;cases this;exact absurd rfl hg
 ·obtain⟨p,q1,q2,q3⟩:=h.2 loc v' _ hs' hb' hgn hx
  exact⟨p,q1,q2,q3.put⟩
theorem DI.open_(hI:DI P l env0 X0 hs ρ D X st me){sl:List (Nat×Nat)}(hsl:zlL X0 sl)(kept:List (Nat×Nat)):DI P l env0 X0 hs ρ D ⟨X.h,X.Φ,X.σ,xj kept sl X.sh⟩ ⟨st.env,xj kept sl st.h⟩ me/\X.le ⟨X.h,X.Φ,X.σ,xj kept sl X.sh⟩:=by
 obtain⟨S,hle⟩:=zpv hI.stp (h':=xj kept sl X.sh) xn fun i b hb=>by
  obtain⟨b',h1,h2⟩:=za3 (kept:=kept) (sl:=sl) hb
  refine⟨b',h1,h2.imp id fun⟨q1,q2,_,p,q4,q5⟩=>⟨q1,q2,fun b0 hb0=>hsl p q4 b0 (by rw[q5];exact hb0)⟩⟩
 exact⟨⟨S,hI.env.le hle,by rw[<- hI.sh],hI.hh,hI.off,hI.e2,hI.e3,hI.dl,hI.ml,hI.cl,hI.ai,hI.rk,hI.hk,hI.un⟩,hle⟩
theorem ze5{gl:GL}{h:SH}{n loc k i fo:Nat}{cs:List SV}(q:kq gl h n (.zea loc k i fo)=some cs):∃ u l md,h[loc]?=some (.seq u l k md):=by
 unfold kq at q
 simp only at q
 split at q
 ·rename_i u l m md he
  split at q
  ·rename_i h1 h2
   have:=zb h1
   subst this
   exact⟨u,l,md,he⟩
  ·cases q
 ·cases q
theorem zhh{P:Program}{gl:GL}{h:SH}{t:TypeId}{p v:SV}(q:zhg P gl h t p=some v):∃ n cs,kq gl h n p=some cs:=by
 unfold zhg at q
 split at q
 ·split at q
  ·rename_i h1;exact⟨_,_,h1⟩
  ·cases q
 ·split at q
  ·rename_i h1;exact⟨_,_,h1⟩
  ·cases q
 ·cases q
theorem zkw(hI:DI P l env0 X0 hs ρ D X st me)(hg:RGl P gl X){I:List (Option Nat×Nat)}{i b:Nat}{op:Op}{v:SV}{sh':SH}{Y:Gst}{x:Option Nat}
  (hq:Hit (sop P gl (zhZ gl I st.env i b) X.sh op) (.val v sh')) (hr:zqx X.sh (zhZ gl I st.env i b) op=some x) (S:Stp X Y) (hh:Y.h=X.h) (hsh:Y.sh=sh') {sh2:SH} {sl sl1:List (Nat×Nat)} (hsl:zlL X0 sl) (hx:match x with|none=>sh2=sh'/\sl1=sl|some loc=>zh1 sh' i loc sl=some (sh2,sl1)) (hqt:kindOf P op=.quiet):
  ∃ X1,Stp X X1/\X1.h=X.h/\X1.sh=sh2/\Y.le X1/\zlL X0 sl1/\(∀ ρ' k m,FxK P l X0 ρ' D X sl k m->FxK P l X0 ρ' (D ||| (1 <<< i)) X1 sl1 k m/\X1.h[m]?=X.h[m]?)/\(MFr P (emD P gl I st.env me X.h i b) op\/∃ t o m off ver lim,op=.load t o/\emD P gl I st.env me X.h i b o=some (.ptr m off ver lim)/\∀ ρ' k,hold l ρ' (D ||| (1 <<< i)) k i->FxK P l X0 ρ' (D ||| (1 <<< i)) X1 sl1 k m):=by
 unfold zqx at hr
 cases hf:zjG op with
 |true=>
  rw[hf] at hr;cases hr
  obtain⟨hx1,rfl⟩:=hx
  exact⟨Y,S,hh,hsh.trans hx1.symm,Gst.le_refl S.hr.len,hsl,fun ρ' k m hm=>FxK.put S hm,.inl fun e' h h' h1 v hm q=>zl8 hm hf q⟩
 |false=>
  rw[hf] at hr
  cases op with
  |slice t o lo hi mx=>
   simp only at hr
   split at hr
   ·rename_i v0 he
    split at hr
    ·rename_i hfl
     cases hr
     obtain⟨y,h1,h2⟩:=zai (P:=P) (gl:=gl) (I:=I) (i:=i) (b:=b) hI.env hg _ _ he
     obtain⟨hx1,rfl⟩:=hx
     exact⟨Y,S,hh,hsh.trans hx1.symm,Gst.le_refl S.hr.len,hsl,fun ρ' k m hm=>FxK.put S hm,.inl (zj8 (fun w hw=>by rw[h1] at hw;cases hw;exact zcL hfl h2) (by
      have hrel:=zai (P:=P) (gl:=gl) (I:=I) (i:=i) (b:=b) hI.env hg
      simp only[sop,he] at hq
      split at hq
      ·rename_i a1 b1 c1 d1 e0 e1 e2 e3
       cases e0
       obtain⟨v1,q1,q2⟩:=zik hq
       obtain⟨z,q3,q4⟩:=zbZ hI.stp.hr h2 q1
       exact⟨y,z,b1,c1,d1,X.h,h1,qO hrel e1,qO hrel e2,qO hrel e3,q3⟩
      ·cases hq))⟩
    ·cases hr
   ·cases hr
  |convert s d o=>
   simp only at hr
   split at hr
   ·rename_i v0 he
    split at hr
    ·rename_i hfl
     cases hr
     obtain⟨y,h1,h2⟩:=zai (P:=P) (gl:=gl) (I:=I) (i:=i) (b:=b) hI.env hg _ _ he
     obtain⟨hx1,rfl⟩:=hx
     exact⟨Y,S,hh,hsh.trans hx1.symm,Gst.le_refl S.hr.len,hsl,fun ρ' k m hm=>FxK.put S hm,.inl (zl2 hqt fun w hw=>by rw[h1] at hw;cases hw;exact ziF hfl h2)⟩
    ·cases hr
   ·cases hr
  |call c=>
   simp only at hr
   split at hr
   ·rename_i v0 hc he
    split at hr
    ·rename_i hfl
     cases hr
     obtain⟨xs,h1,w,t,rfl,h2,rfl⟩:=j6 (zai (P:=P) (gl:=gl) (I:=I) (i:=i) (b:=b) hI.env hg) he
     obtain⟨hx1,rfl⟩:=hx
     exact⟨Y,S,hh,hsh.trans hx1.symm,Gst.le_refl S.hr.len,hsl,fun ρ' k m hm=>FxK.put S hm,.inl (zoc hc (fun x hx2=>by rw[h1] at hx2;cases hx2;exact zgq hfl h2) ⟨_,h1⟩)⟩
    ·cases hr
   ·cases hr
  |load t o=>
   simp only at hr
   have hrel:=zai (P:=P) (gl:=gl) (I:=I) (i:=i) (b:=b) hI.env hg
   have hld:∀ p,zhZ gl I st.env i b o=some p->∃ n cs,kq gl X.sh n p=some cs:=fun p hp=>by
    simp only[sop,hp] at hq
    obtain⟨w,h1,_⟩:=zal hq
    exact zhh h1
   have imm:x=none->∀ m off ver lim,emD P gl I st.env me X.h i b o=some (.ptr m off ver lim)->X.Φ m->∃ X1,Stp X X1/\X1.h=X.h/\X1.sh=sh2/\Y.le X1/\zlL X0 sl1/\(∀ ρ' k m,FxK P l X0 ρ' D X sl k m->FxK P l X0 ρ' (D ||| (1 <<< i)) X1 sl1 k m/\X1.h[m]?=X.h[m]?)/\(MFr P (emD P gl I st.env me X.h i b) (.load t o)\/∃ t' o' m off ver lim,Op.load t o=.load t' o'/\emD P gl I st.env me X.h i b o'=some (.ptr m off ver lim)/\∀ ρ' k,hold l ρ' (D ||| (1 <<< i)) k i->FxK P l X0 ρ' (D ||| (1 <<< i)) X1 sl1 k m):=by
    intro e m off ver lim h1 h2
    subst e
    obtain⟨hx1,rfl⟩:=hx
    exact⟨Y,S,hh,hsh.trans hx1.symm,Gst.le_refl S.hr.len,hsl,fun ρ' k m hm=>FxK.put S hm,.inr ⟨t,o,m,off,ver,lim,rfl,h1,fun ρ' k _=>.inl (S.le.Φ m h2)⟩⟩
   have own:∀ loc m v0 off ver lim,x=some loc->X.σ[loc]?=some (some (m,v0))->emD P gl I st.env me X.h i b o=some (.ptr m off ver lim)->∃ X1,Stp X X1/\X1.h=X.h/\X1.sh=sh2/\Y.le X1/\zlL X0 sl1/\(∀ ρ' k m,FxK P l X0 ρ' D X sl k m->FxK P l X0 ρ' (D ||| (1 <<< i)) X1 sl1 k m/\X1.h[m]?=X.h[m]?)/\(MFr P (emD P gl I st.env me X.h i b) (.load t o)\/∃ t' o' m off ver lim,Op.load t o=.load t' o'/\emD P gl I st.env me X.h i b o'=some (.ptr m off ver lim)/\∀ ρ' k,hold l ρ' (D ||| (1 <<< i)) k i->FxK P l X0 ρ' (D ||| (1 <<< i)) X1 sl1 k m):=by
    intro loc m v0 off ver lim e hσ he
    subst e
    have hU:¬ UD P l X0 (D ||| (1 <<< i)) m:=fun hU=>by
     obtain⟨j,o',t',h1,h2,h3,h4⟩:=UD.put hU
     exact(hI.un j o' t' h1 h2 h3).2.1 loc v0 (h4 ▸ hσ)
    have one:∀ X1:Gst,Stp X X1->∀ (loc' v':Nat),X1.σ[loc']?=some (some (m,v'))->loc'=loc:=fun X1 S1 loc' v' h2=>by
     obtain⟨v2,hσ2⟩:=S1.le.at_ loc m v0 hσ
     exact S1.hr.inj _ _ _ _ _ h2 hσ2
    have fx:∀ X1:Gst,Stp X X1->(∃ b',X1.sh[loc]?=some b'/\b'.md≠0)->Fx X1 (UD P l X0 (D ||| (1 <<< i))) m:=fun X1 S1 ⟨b',hb',hmd⟩=>by
     refine⟨Nat.lt_of_lt_of_le (hI.stp.hr.lt _ _ _ hσ) S1.fm.len,hU,fun i' v' b2 h1 h2=>?_⟩
     have:=one X1 S1 i' v' h2
     subst this
     rw[hb'] at h1;cases h1;exact hmd
    have more:∀ X1:Gst,Stp X X1->((∃ b0,X.sh[loc]?=some b0/\b0.md=0)\/zbN loc sl=true)->∀ ρ' k m',FxK P l X0 ρ' D X sl k m'->FxK P l X0 ρ' (D ||| (1 <<< i)) X1 ((i,loc)::sl) k m'/\X1.h[m']?=X.h[m']?:=fun X1 S1 hor ρ' k m' hm'=>by
     obtain⟨q1,q2⟩:=FxK.put (i:=i) S1 hm'
     refine⟨q1.imp id fun⟨r1,r2⟩=>⟨r1,fun loc' v' b' h1 h2 h3 ⟨p,h4,h5⟩=>?_⟩,q2⟩
     rcases List.mem_cons.1 h4 with rfl|h4
     ·have h5:loc=loc':=h5
      subst h5
      rcases hor with⟨b0,hb0,hmd0⟩|hh2
      ·rcases hm' with hΦ|hm'
       ·obtain⟨p',k1,k2,k3⟩:∃ p' ∈ ((i,loc)::sl),p'.2=loc/\hold l ρ' (D ||| (1 <<< i)) k p'.1\/True:=⟨(i,loc),List.mem_cons_self,.inr trivial⟩
        ·obtain⟨v'',hs''⟩:=S1.fm.new loc m' v' h1 (hI.stp.hr.Φlt m' hΦ)
         rcases hI.stp.hr.own loc m' v'' b0 hb0 hs'' hΦ with e|e<;>rw[e] at hmd0<;>cases hmd0
        ·obtain⟨v'',hs''⟩:=S1.fm.new loc m' v' h1 (hI.stp.hr.Φlt m' hΦ)
         rcases hI.stp.hr.own loc m' v'' b0 hb0 hs'' hΦ with e|e
         ·omega
         ·rw[e] at hmd0;cases hmd0
       ·obtain⟨v'',hs''⟩:=S1.fm.new loc m' v' h1 hm'.1.1
        exact absurd hmd0 (hm'.1.2.2 loc v'' b0 hb0 hs'')
      ·obtain⟨p',k1,k2,k3⟩:=r2 loc v' b' h1 h2 h3 (w5.1 hh2)
       exact⟨p',List.mem_cons_of_mem _ k1,k2,k3⟩
     ·obtain⟨p',k1,k2,k3⟩:=r2 loc' v' b' h1 h2 h3 ⟨p,h4,h5⟩
      exact⟨p',List.mem_cons_of_mem _ k1,k2,k3⟩
    have mine:∀ X1:Gst,Stp X X1->(∃ b',X1.sh[loc]?=some b'/\b'.md≠0)->∀ ρ' k,hold l ρ' (D ||| (1 <<< i)) k i->FxK P l X0 ρ' (D ||| (1 <<< i)) X1 ((i,loc)::sl) k m:=fun X1 S1 hb' ρ' k hh'=>
     .inr ⟨fx X1 S1 hb',fun loc' v' b' h1 _ _ _=>⟨(i,loc),List.mem_cons_self,(one X1 S1 loc' v' h1).symm,hh'⟩⟩
    simp only at hx
    unfold zh1 at hx
    split at hx
    ·rename_i bb hbb
     rw[<- hsh] at hbb
     split at hx
     ·rename_i hmd
      cases hx
      have S2:=shut S.hr hbb hmd
      have hng:bb≠.gone:=fun e=>by rw[e] at hmd;cases hmd
      have hsh1:∃ b',(Y.sh.set loc (bb.xR 1))[loc]?=some b'/\b'.md≠0:=⟨bb.xR 1,List.getElem?_set_self (List.getElem?_eq_some_iff.1 hbb).1,by rw[zhY hng];omega⟩
      have hx0:∃ b0,X.sh[loc]?=some b0/\b0.md=0:=by
       have hi:loc<X.sh.length:=by rw[<- S.le.shl];exact(List.getElem?_eq_some_iff.1 hσ).1
       refine⟨_,List.getElem?_eq_getElem hi,?_⟩
       by_cases e:(X.sh[loc]'hi).md=0
       ·exact e
       ·obtain⟨b',q1,q2⟩:=S.fm.md loc _ (List.getElem?_eq_getElem hi) e
        rw[hbb] at q1;cases q1;exact absurd hmd q2
      refine⟨_,S.trans S2,hh,by rw[hsh],S2.le,fun p hp b0 hb0=>?_,more _ (S.trans S2) (.inl hx0),.inr ⟨t,o,m,off,ver,lim,rfl,he,mine _ (S.trans S2) hsh1⟩⟩
      rcases List.mem_cons.1 hp with rfl|hp
      ·obtain⟨bx,hbx,hmx⟩:=hx0
       by_cases e:b0.md=0
       ·exact e
       ·obtain⟨b',q1,q2⟩:=hI.stp.fm.md loc b0 hb0 e
        rw[hbx] at q1;cases q1;exact absurd hmx q2
      ·exact hsl p hp b0 hb0
     ·rename_i hmd
      have hsh1:∃ b',Y.sh[loc]?=some b'/\b'.md≠0:=⟨bb,hbb,hmd⟩
      split at hx
      ·rename_i hl
       cases hx
       refine⟨Y,S,hh,hsh,Gst.le_refl S.hr.len,fun p hp b0 hb0=>?_,more Y S (.inr hl),.inr ⟨t,o,m,off,ver,lim,rfl,he,mine Y S hsh1⟩⟩
       rcases List.mem_cons.1 hp with rfl|hp
       ·obtain⟨p',q1,q2⟩:=w5.1 hl
        exact hsl p' q1 b0 (by rw[q2];exact hb0)
       ·exact hsl p hp b0 hb0
      ·rename_i hl
       cases hx
       refine⟨Y,S,hh,hsh,Gst.le_refl S.hr.len,hsl,fun ρ' k m hm=>FxK.put S hm,.inr ⟨t,o,m,off,ver,lim,rfl,he,fun ρ' k hh'=>.inr ⟨fx Y S hsh1,fun loc' v' b' h1 _ _ hp=>?_⟩⟩⟩
       rw[one Y S loc' v' h1] at hp
       rw[w5.2 hp] at hl;cases hl
    ·cases hx
   split at hr
   ·rename_i loc off lim he
    cases hr
    obtain⟨y,h1,m,⟨v0,h2⟩,rfl⟩:=hrel _ _ he
    exact own loc m v0 _ _ _ rfl h2 h1
   ·rename_i loc k j fo he
    cases hr
    obtain⟨y,h1,_,o',h3,h4⟩:=hrel _ _ he
    obtain⟨n,cs,hc⟩:=hld _ he
    obtain⟨u,l',md,hb⟩:=ze5 hc
    obtain⟨_,m,ver,lim,rfl,rfl,_⟩:=(h4 u l' k md hb).2 rfl
    exact own loc m ver _ _ _ rfl h3 h1
   ·rename_i u e fo he
    cases hr
    obtain⟨y,h1,m,off,ver,lim,cs,rfl,hΦ,_⟩:=hrel _ _ he
    exact imm rfl _ _ _ _ h1 hΦ
   ·rename_i g off lim he
    cases hr
    obtain⟨y,h1,rfl⟩:=hrel _ _ he
    obtain⟨n,cs,hc⟩:=hld _ he
    have hΦ:X.Φ g:=by
     simp only[kq] at hc
     split at hc
     ·rename_i l' hl' _;exact(hg g l' hl').2.1
     ·cases hc
    exact imm rfl _ _ _ _ h1 hΦ
   ·cases hr
  |_=>cases hr
def zo4(P:Program)(gl:GL)(ct:CT)(hk:qc)(l:List Oper)(env0:Arr AV)(X0:Gst)(hs:List Blk)(n:Nat)(pl:Pl):Prop:=∀ (D:Nat) (sl:List (Nat×Nat)) (p:List Nat) (R:Type) (st:SS) (K:SS->Option R) (r:R) (ρ:Nat->Rec) (X:Gst) (me:Arr AV),
 sdr P gl ct (R:=R) n pl l (infos l []) (zQ P l 0) (qP P l 0) D sl p st K=some r->DI P l env0 X0 hs ρ D X st me->RGl P gl X->zlL X0 sl->Rs1 P hk l env0 X0 hs ρ D X sl K r
theorem zmp(hdst:zah (infos l [])=true)(hhs:qM P l=some hs){n:Nat}{pl:Pl}(ihF:∀ (i:Nat) (f:FuncId),zd2 P gl hk f fun R args h κ=>zaB P gl ct (R:=R) n (pl.at i f) f args h κ)
  (ihD:zo4 P gl ct hk l env0 X0 hs n pl):zo4 P gl ct hk l env0 X0 hs (n+1) pl:=by
 intro D sl p R st K r ρ X me h hI hg hsl
 cases p with
 |nil=>
  unfold sdr at h
  simp only at h
  split at h
  ·rename_i hD
   have hD:=Nat.eq_of_beq_eq_true hD
   have hall:∀ k,k<l.length->bit D k=true:=fun k hk=>by rw[hD,zgh];simpa using hk
   exact⟨st,X,me,ρ,D,h,hI,hall,hI.stp,fun _ _=>rfl,Fut.end_ hI hall,fun i hi hd=>absurd (hall i hi) (by rw[hd];simp)⟩
  ·cases h
 |cons i p=>
  unfold sdr at h
  simp only at h
  split at h
  ·rename_i o d b ho hib
   obtain⟨m0,hib',_⟩:=jt ho
   rw[hib] at hib'
   have hde:d=o.dst:=by injection hib' with h1;injection h1
   subst hde
   split at h
   ·cases h
   ·rename_i hok
    have hok:=zmh hok
    have hil:i<l.length:=(List.getElem?_eq_some_iff.1 ho).1
    have hr:=hI.stp.hr
    have hlen:(infos l []).length=l.length:=qv _ _
    have fin:∀ (r1:Rec) (X1:Gst) (env:List SV) (v:SV) (h1:SH) (sl1:List (Nat×Nat)),Stp X0 X1->X.le X1->X1.sh=h1->(X1.h=match r1.hp with|some h'=>h' | none=>X.h)->(r1.hp≠none->kindOf P o.op=.act)->((∃ t,kindOf P o.op=.hole t)↔∃ a c,r1=.hole a c) ->
      env=st.env->RV X1 v r1.val->zlL X0 sl1 ->
      (∀ (j:Nat) (o':Oper) (t:TypeId),l[j]?=some o'->kindOf P o'.op=.hole t->bit D j=false->j≠i->X1.h[mH P l X0 j]?=X.h[mH P l X0 j]? /\ mH P l X0 j<X1.h.length/\(∀ (k v:Nat),X1.σ[k]? ≠ some (some (mH P l X0 j,v)))/\¬ X1.Φ (mH P l X0 j)) ->
      (∀ (ρ':Nat->Rec) (k m:Nat),ρ' i=r1->(r1.hp≠none->i<k)->FxK P l X0 ρ' D X sl k m->FxK P l X0 ρ' (D ||| (1 <<< i)) X1 sl1 k m/\X1.h[m]?=X.h[m]?) ->
      (∀ ρ' Y st' me' D',DI P l env0 X0 hs ρ' D' Y st' me'->(∀ k,k<l.length->bit D' k=true)->(∀ k,bit D k=true->ρ' k=ρ k)->ρ' i=r1->Fut P l X0 hs ρ' (D ||| (1 <<< i)) X1 sl1->St1 P hk l env0 X0 hs ρ' i) ->
      (match jH env o.dst v with|some env=>sdr P gl ct n pl l (infos l []) (zQ P l 0) (qP P l 0) (D ||| (1 <<< i)) sl1 p ⟨env,h1⟩ K|none=>none)=some r->Rs1 P hk l env0 X0 hs ρ D X sl K r:=by
     intro r1 X1 env v h1 sl1 S hle hsh hh hra hrh hen hv hsl1 hun hfx hi h
     split at h
     ·rename_i env1 hset
      obtain⟨me1,hD1⟩:=hI.put hdst ho hib hok S hle hsh hh hra hrh hen hv hset hun
      exact Rs1.join hI ho hok hfx hi (ihD _ _ _ R _ K r _ X1 me1 h hD1 (hg.le hle) hsl1) hra
     ·cases h
    have off:(∀ ρ':Nat->Rec,(∀ k,bit D k=true->ρ' k=ρ k)->zck l o b ((qk ρ' i).map Rec.val)=some false)->bit (qP P l 0) i=false ->
      (match jH st.env o.dst (.tup []) with|some env=>sdr P gl ct n pl l (infos l []) (zQ P l 0) (qP P l 0) (D ||| (1 <<< i)) sl p ⟨env,st.h⟩ K|none=>none)=some r->Rs1 P hk l env0 X0 hs ρ D X sl K r:=by
     intro hw hnh h
     refine fin .off X st.env (.tup []) st.h sl hI.stp (Gst.le_refl hr.len) hI.sh rfl (fun h=>absurd rfl h) ⟨fun ht=>?_,fun⟨a,c,e⟩=>(by cases e)⟩ rfl ⟨[],rfl,rfl⟩ hsl (fun j o' t hj hkj hd _=>hI.zlv (.refl hr) hj hkj hd) (fun ρ' k m _ _ hm=>FxK.put (.refl hr) hm) (fun ρ' Y st' me' D' hI' hall hρ hi hFt=>?_) h
     ·rw[(zjN ho).2 ht] at hnh;cases hnh
     ·intro o2 d2 b2 ho2 hib2
      rw[ho] at ho2;cases ho2
      rw[hib] at hib2;cases hib2
      refine⟨Ev.all fun f=>?_,fun call=>by rw[hi];rfl⟩
      unfold j1
      rw[zV,hib]
      simp only[hw ρ' hρ,hi]
    have go:(∀ ρ':Nat->Rec,(∀ k,bit D k=true->ρ' k=ρ k)->zck l o b ((qk ρ' i).map Rec.val)=some true) ->
      (match kindOf P o.op with
       |.hole t=>match zdb P t with
        |some z=>match znk (zoe P t) z st.h with
         |some (v,h)=>match jH st.env o.dst v with|some env=>sdr P gl ct n pl l (infos l []) (zQ P l 0) (qP P l 0) (D ||| (1 <<< i)) sl p ⟨env,h⟩ K|none=>none
         |none=>none
        |none=>none
       |.quiet=>alts (fun r=>match r with
        |.val v h=>match zfP (infos l []) (zQ P l 0) i b with
         |false=>match jH st.env o.dst v with|some env=>sdr P gl ct n pl l (infos l []) (zQ P l 0) (qP P l 0) (D ||| (1 <<< i)) sl p ⟨env,h⟩ K|none=>none
         |true=>match zqx st.h (zhZ gl (infos l []) st.env i b) o.op with
          |some none=>match jH st.env o.dst v with|some env=>sdr P gl ct n pl l (infos l []) (zQ P l 0) (qP P l 0) (D ||| (1 <<< i)) sl p ⟨env,h⟩ K|none=>none
          |some (some loc)=>match zh1 h i loc sl with
           |some (h,sl)=>match jH st.env o.dst v with|some env=>sdr P gl ct n pl l (infos l []) (zQ P l 0) (qP P l 0) (D ||| (1 <<< i)) sl p ⟨env,h⟩ K|none=>none
           |none=>none
          |none=>none
        |_=>none) (sop P gl (zhZ gl (infos l []) st.env i b) st.h o.op)
       |.act=>alts (fun r=>match r with
        |.val v h=>match jH st.env o.dst v with|some env=>sdr P gl ct n pl l (infos l []) (zQ P l 0) (qP P l 0) (D ||| (1 <<< i)) (j0 b sl) p ⟨env,h⟩ K|none=>none
        |.unit h=>match jH st.env o.dst (.tup []) with|some env=>sdr P gl ct n pl l (infos l []) (zQ P l 0) (qP P l 0) (D ||| (1 <<< i)) (j0 b sl) p ⟨env,h⟩ K|none=>none
        |.dfr f args cap=>none
        |.call (.inl f) args=>zaB P gl ct n (pl.at i f) f args (xj (j0 b sl) sl st.h) fun r=>match r with
         |.ret v h=>match jH st.env o.dst v with|some env=>sdr P gl ct n pl l (infos l []) (zQ P l 0) (qP P l 0) (D ||| (1 <<< i)) (j0 b sl) p ⟨env,h⟩ K|none=>none
         |.pan v h=>none
        |.call (.inr _) _=>none) (sop P gl (zhZ gl (infos l []) st.env i b) (xj (j0 b sl) sl st.h) o.op))=some r->Rs1 P hk l env0 X0 hs ρ D X sl K r:=by
     intro hw h
     have hrel:=zai (P:=P) (gl:=gl) (I:=infos l []) (i:=i) (b:=b) hI.env hg
     have now:∀ {ρ':Nat->Rec} {k:Nat},(∀ k,bit D k=true->ρ' k=ρ k)->k<=l.length->(∀ j,bit (zQ P l 0) j=true->bit D j=true->j<k)->(∀ j,j<k->(ρ' j).hp≠none->bit D j=true)->hF ρ' (H0 X0 hs) k=X.h:=
      fun hρ hk h1 h2=>(zgz hI hρ h2).trans (zjK hI hk h1)
     cases hkd:kindOf P o.op with
     |hole t=>
      rw[hkd] at h
      have hna:bit (zQ P l 0) i=false:=by
       cases e:bit (zQ P l 0) i with
       |false=>rfl
       |true=>have:=(zcC ho).1 e;rw[hkd] at this;cases this
      have hho:=hok.hole hna ((zjN ho).2 ⟨t,hkd⟩)
      simp only at h
      split at h
      ·rename_i z hz
       split at h
       ·rename_i v h1 hbx
        obtain⟨x,hzx,hvx⟩:=qb (X:=X) hz
        unfold znk at hbx
        split at hbx
        ·rename_i hwh
         cases hbx
         have hcs:=hvx.zdf hwh
         obtain⟨x',hx1,hx2⟩:=ky hhs ho hkd
         rw[hzx] at hx1;cases hx1
         obtain⟨u1,u2,u3,u4⟩:=hI.un i o t ho hkd hok.new
         have hrow:X.h[mH P l X0 i]?=some (.row x.cells 0 0 0 false (some t)):=by rw[hI.hh,u4 _ (Nat.le_refl _),hx2]
         obtain⟨S1,hle1⟩:=zqE (m:=mH P l X0 i) hI.stp (zkd P t) (Nat.le_add_right _ _) u1 u2 u3 hrow hcs
         have hop:=zaQ hkd
         split at h
         ·rename_i env1 hset
          obtain⟨me1,hD1⟩:=hI.put (r:=.hole (mH P l X0 i) x.cells.length) (X1:=⟨X.h,X.Φ,X.σ++[some (mH P l X0 i,0)],X.sh++[.cells z.cells 0 (zoe P t)]⟩) hdst ho hib hok S1 hle1 (by rw[hI.sh]) rfl (fun h=>absurd rfl h) ⟨fun _=>⟨_,_,rfl⟩,fun _=>⟨t,hkd⟩⟩ rfl
           (show RV _ (.ptr st.h.length 0 z.cells.length) (.ptr (mH P l X0 i) 0 0 x.cells.length) from⟨mH P l X0 i,⟨0,by show(X.σ++[_])[st.h.length]?=_;rw[<- hI.sh,<- hr.len,List.getElem?_append_right (Nat.le_refl _),Nat.sub_self];rfl⟩,by rw[hcs.length]⟩) hset
           (fun j o' t' hj hkj hd hne=>by
            obtain⟨w1,w2,w3,_⟩:=hI.un j o' t' hj hkj hd
            refine⟨rfl,w1,fun k v hs=>?_,w3⟩
            rcases zC hs with q|⟨_,q⟩
            ·exact w2 k v q
            ·have e:mH P l X0 i=mH P l X0 j:=by injection q with q;exact(Prod.mk.inj q).1
             unfold mH at e
             rcases Nat.lt_or_gt_of_ne hne with hlt|hlt
             ·have:=zne hj hkj hlt;omega
             ·have:=zne ho hkd hlt;omega)
          refine Rs1.join (r:=.hole (mH P l X0 i) x.cells.length) (X1:=⟨X.h,X.Φ,X.σ++[some (mH P l X0 i,0)],X.sh++[.cells z.cells 0 (zoe P t)]⟩) hI ho hok (sl1:=sl) (fun ρ' k m hρi _ hm=>⟨?_,rfl⟩) (fun ρ' Y st' me' D' hI' hall hρ hi hFt=>?_) (ihD _ _ _ R _ K r _ _ me1 h hD1 (hg.le hle1) hsl) (fun h=>absurd rfl h)
          ·refine hm.imp id fun⟨hm,hm2⟩=>⟨⟨hm.1,fun hU=>hm.2.1 (UD.put hU),fun i' v' b' hb' hs'=>?_⟩,fun i' v' b' hs' hb' hng hp=>?_⟩
           ·rcases zC hs' with q|⟨_,q⟩
            ·have hi':=(List.getElem?_eq_some_iff.1 q).1
             dsimp only at hb'
             rw[List.getElem?_append_left (by rw[<- hr.len];exact hi')] at hb'
             exact hm.2.2 i' v' b' hb' q
            ·have e:mH P l X0 i=m:=by injection q with q;exact(Prod.mk.inj q).1
             exact absurd ⟨i,o,t,ho,hkd,hok.new,e.symm⟩ hm.2.1
           ·rcases zC hs' with q|⟨_,q⟩
            ·have hi':=(List.getElem?_eq_some_iff.1 q).1
             dsimp only at hb'
             rw[List.getElem?_append_left (by rw[<- hr.len];exact hi')] at hb'
             obtain⟨p',k1,k2,k3⟩:=hm2 i' v' b' q hb' hng hp
             exact⟨p',k1,k2,k3.put⟩
            ·have e:mH P l X0 i=m:=by injection q with q;exact(Prod.mk.inj q).1
             exact absurd ⟨i,o,t,ho,hkd,hok.new,e.symm⟩ hm.2.1
          ·intro o2 d2 b2 ho2 hib2
           rw[ho] at ho2;cases ho2
           rw[hib] at hib2;cases hib2
           have past:∀ k,k<=l.length->(∀ j,j<k->(ρ' j).hp≠none->bit D j=true)->zjw P t (mH P l X0 i) (hF ρ' (H0 X0 hs) k)=true:=fun k hk hj=>by
            unfold zjw
            rw[zgz hI hρ hj,hzx,u4 k hk,hx2]
            simp only[wm,Nat.beq_refl,Bool.and_true]
           refine⟨Ev.all fun f=>?_,fun call=>?_⟩
           ·unfold j1
            rw[zV,hib]
            simp only[hw ρ' hρ,zei,hkd,hzx]
            rw[hi,zfG (Nat.le_of_lt hil) fun k o' hk'=>hI'.hk k o' hk' (hall k (List.getElem?_eq_some_iff.1 hk').1)]
            rfl
           ·rw[hi]
            show(match o.op with|.alloc t=>Nat.blt (mH P l X0 i) (H0 X0 hs).length&&goQ (zjw P t (mH P l X0 i)) i b (qk ρ' l.length) (infos l []) 0 (H0 X0 hs)|_=>false)=true
            rw[hop]
            simp only[Bool.and_eq_true]
            refine⟨?_,zm6 hlen (fun k hk hne hb hp=>?_) fun hp=>?_⟩
            ·have:=(List.getElem?_eq_some_iff.1 hx2).1
             exact Nat.ble_eq_true_of_le (show mH P l X0 i+1<=(X0.h++hs).length by rw[Arr.zv];unfold mH;omega)
            ·refine past k (Nat.le_of_lt hk) fun j hj hnj=>?_
             have ha:=hI'.rk k hne
             have haj:=hI'.rk j hnj
             cases hd:bit D k with
             |true=>exact hI.ai j k haj ha hj hd
             |false=>
              cases hbj:bit b j with
              |true=>exact hok.sub j hbj
              |false=>
               rcases hho j haj with h4|⟨d',m',h5,h6⟩
               ·exact h4
               ·have:=hp j d' m' hj h5 hnj hbj;rw[h6] at this;cases this
            ·refine past _ (Nat.le_refl _) fun j hj hnj=>?_
             have haj:=hI'.rk j hnj
             cases hbj:bit b j with
             |true=>exact hok.sub j hbj
             |false=>
              rcases hho j haj with h4|⟨d',m',h5,h6⟩
              ·exact h4
              ·have:=hp j d' m' hj h5 hnj hbj;rw[h6] at this;cases this
         ·cases h
        ·cases hbx
       ·cases h
      ·cases h
     |quiet=>
      rw[hkd] at h
      have hna:bit (zQ P l 0) i=false:=by
       cases e:bit (zQ P l 0) i with
       |false=>rfl
       |true=>have:=(zcC ho).1 e;rw[hkd] at this;cases this
      have hnh:bit (qP P l 0) i=false:=by
       cases e:bit (qP P l 0) i with
       |false=>rfl
       |true=>obtain⟨t,e⟩:=(zjN ho).1 e;rw[hkd] at e;cases e
      have hqt:=hok.quiet hna hnh
      simp only at h
      obtain⟨q,hq,h⟩:=zd3 h
      rw[<- hI.sh] at hq
      obtain⟨rs,hm,hrs⟩:=zc8 hr hg hrel hq
      cases q with
      |val v sh'=>
       cases rs with
       |val x h'=>
        obtain⟨Y,S1,hsh,hh,hv⟩:=hrs
        have hh':h'=X.h:=zio hkd hm
        subst hh'
        have fini:∀ (X1:Gst) (sh2:SH) (sl1:List (Nat×Nat)),Stp X X1->X1.h=X.h->X1.sh=sh2->RV X1 v x->zlL X0 sl1->(∀ ρ' k m,FxK P l X0 ρ' D X sl k m->FxK P l X0 ρ' (D ||| (1 <<< i)) X1 sl1 k m/\X1.h[m]?=X.h[m]?) ->
          (zfP (infos l []) (zQ P l 0) i b=false\/(MFr P (emD P gl (infos l []) st.env me X.h i b) o.op\/∃ t o' m off ver lim,o.op=.load t o'/\emD P gl (infos l []) st.env me X.h i b o'=some (.ptr m off ver lim)/\∀ ρ' k,hold l ρ' (D ||| (1 <<< i)) k i->FxK P l X0 ρ' (D ||| (1 <<< i)) X1 sl1 k m)) ->
          (match jH st.env o.dst v with|some env=>sdr P gl ct n pl l (infos l []) (zQ P l 0) (qP P l 0) (D ||| (1 <<< i)) sl1 p ⟨env,sh2⟩ K|none=>none)=some r->Rs1 P hk l env0 X0 hs ρ D X sl K r:=by
         intro X1 sh2 sl1 S2 hh2 hsh2 hv2 hsl1 hfk hcase h
         refine fin (.quiet x) X1 st.env v sh2 sl1 (hI.stp.trans S2) S2.le hsh2 hh2 (fun h=>absurd rfl h) ⟨fun⟨t,e⟩=>(by rw[hkd] at e;cases e),fun⟨a,c,e⟩=>(by cases e)⟩ rfl hv2 hsl1 (fun j o' t hj hkj hd _=>hI.zlv S2 hj hkj hd) (fun ρ' k m _ _ hm=>hfk ρ' k m hm) (fun ρ' Z st' me' D' hI' hall hρ hi hFt=>?_) h
         have good:∀ k,k<=l.length->(∀ j,bit (zQ P l 0) j=true->bit D j=true->j<k)->(zfP (infos l []) (zQ P l 0) i b=false->∀ j,j<k->(ρ' j).hp≠none->bit D j=true)->hold l ρ' (D ||| (1 <<< i)) k i ->
           ∀ vs:List AV,(∀ j,bit b j=true->vs[j]?=some (ρ j).val)->mop P (evD P (infos l []) env0 vs i b (hF ρ' (H0 X0 hs) k)) (hF ρ' (H0 X0 hs) k) o.op=some (.val x (hF ρ' (H0 X0 hs) k)):=by
          intro k hk hDk hnr hho vs hvs
          have hfx:∀ m,FxK P l X0 ρ' (D ||| (1 <<< i)) X1 sl1 k m->(hF ρ' (H0 X0 hs) k)[m]?=X.h[m]?:=fun m hm=>by
           rw[hFt k hk (fun j h8 h9=>?_) m hm,hh2]
           rw[wo] at h9
           simp only[Bool.or_eq_true,decide_eq_true_eq] at h9
           rcases h9 with h9|rfl
           ·exact hDk j h8 h9
           ·rw[hna] at h8;cases h8
          have hΦ:∀ m,X.Φ m->(hF ρ' (H0 X0 hs) k)[m]?=X.h[m]?:=fun m hm=>hfx m (.inl (S2.le.Φ m hm))
          have hev:=zm5 hI hg hdst hok hvs hΦ
          rcases hcase with hc|hc|⟨t,o',m,off,ver,lim,hop,he,hfm⟩
          ·have e:=now hρ hk hDk (hnr hc)
           rw[e] at hev |-
           exact zcr hev hm
          ·exact hc _ _ _ _ _ hev hm
          ·rw[hop] at hm |-
           refine zl9 hev (fun loc off' ver' lim' hl=>?_) hm
           rw[he] at hl;cases hl
           exact hfx m (hfm ρ' k hho)
         intro o2 d2 b2 ho2 hib2
         rw[ho] at ho2;cases ho2
         rw[hib] at hib2;cases hib2
         have hrc:=fun hc=>ziI (I:=infos l []) (am:=zQ P l 0) (i:=i) (b:=b) hc
         have hlo:∀ (a:Nat) (d':Option Nat) (m':Nat),(infos l [])[a]?=some (d',m')->bit m' i=true->i<a:=fun a d' m' ha hb=>by
          have hal:a<l.length:=by rw[<- hlen];exact(List.getElem?_eq_some_iff.1 ha).1
          exact(hI'.cl a d' m' ha (hall a hal) i hb).2
         refine⟨Ev.all fun f=>?_,fun call=>?_⟩
         ·unfold j1
          rw[zV,hib]
          simp only[hw ρ' hρ,zei,hkd,zef]
          unfold zdL
          rw[good i (Nat.le_of_lt hil) (fun j h8 h9=>hok.low j (hqt j h9 h8)) (fun hc j hj hne=>(hrc hc j (hI'.rk j hne)).elim (hok.sub j) fun h=>absurd h.1 (by omega)) (fun a d' m' h1 h2 _ _=>by cases hb:bit m' i with|false=>rfl|true=>have:=hlo a d' m' h2 hb;omega) _ (zga hρ hok (Nat.le_refl _))]
          simp only[hi]
         ·rw[hi]
          have cq:∀ k,k<=l.length->(∀ j,bit (zQ P l 0) j=true->bit D j=true->j<k)->(zfP (infos l []) (zQ P l 0) i b=false->∀ j,j<k->(ρ' j).hp≠none->bit D j=true)->hold l ρ' (D ||| (1 <<< i)) k i->zid P noQ call (infos l []) env0 ((qk ρ' l.length).map Rec.val) i b o x (hF ρ' (H0 X0 hs) k)=true:=fun k hk h1 h2 h3=>by
           unfold zid zdL
           rw[good k hk h1 h2 h3 _ (zga hρ hok (Nat.le_of_lt hil))]
           exact beq_refl x
          have live:∀ k,(∀ (j:Nat) (d:Option Nat) (m:Nat),j<k->(infos l [])[j]?=some (d,m)->(ρ' j).hp≠none->bit b j=false->bit m i=false)->zfP (infos l []) (zQ P l 0) i b=false->∀ j,j<k->(ρ' j).hp≠none->bit D j=true:=fun k hp hc j hj hne=>by
           cases hbj:bit b j with
           |true=>exact hok.sub j hbj
           |false=>
            rcases hrc hc j (hI'.rk j hne) with h4|⟨_,d',m',h5,h6⟩
            ·rw[hbj] at h4;cases h4
            ·have:=hp j d' m' hj h5 hne hbj;rw[h6] at this;cases this
          have hld:∀ k,(∀ (j:Nat) (d:Option Nat) (m:Nat),j<k->(infos l [])[j]?=some (d,m)->(ρ' j).hp≠none->bit b j=false->bit m i=false)->hold l ρ' (D ||| (1 <<< i)) k i:=fun k hp a d' m' h1 h2 h3 h4=>by
           refine hp a d' m' h1 h2 h3 ?_
           rw[wo] at h4
           simp only[Bool.or_eq_false_iff] at h4
           cases hb:bit b a with
           |false=>rfl
           |true=>have:=hok.sub a hb;rw[h4.1] at this;cases this
          refine(Bool.or_eq_true _ _).mpr (.inl ((Bool.or_eq_true _ _).mpr (.inr ?_)))
          refine zm6 hlen (fun k hk hne hb hp=>cq k (Nat.le_of_lt hk) (fun j h8 h9=>?_) (live k hp) (hld k hp)) fun hp=>cq _ (Nat.le_refl _) (fun j h8 h9=>zqF h8) (live _ hp) (hld _ hp)
          have ha:=hI'.rk k hne
          have hdk:bit D k=false:=by
           cases e:bit D k with
           |false=>rfl
           |true=>have:=hqt k e ha;rw[hb] at this;cases this
          rcases Nat.lt_trichotomy j k with h4|h4|h4
          ·exact h4
          ·subst h4;rw[hdk] at h9;cases h9
          ·have:=hI.ai k j ha h8 h4 h9;rw[hdk] at this;cases this
        simp only at h
        split at h
        ·rename_i hc;exact fini Y sh' sl S1 hh hsh hv hsl (fun ρ' k m hm=>FxK.put S1 hm) (.inl hc) h
        ·rename_i hc
         split at h
         ·rename_i hrc
          obtain⟨X1,q1,q2,q3,q4,q6,q7,q5⟩:=zkw (x:=none) (sh2:=sh') (sl1:=sl) hI hg hq (hI.sh ▸ hrc) S1 hh hsh hsl ⟨rfl,rfl⟩ hkd
          exact fini X1 sh' sl q1 q2 q3 (hv.le q4) q6 q7 (.inr q5) h
         ·rename_i loc hrc
          split at h
          ·rename_i sh2 sl2 hs2
           obtain⟨X1,q1,q2,q3,q4,q6,q7,q5⟩:=zkw (x:=some loc) (sh2:=sh2) (sl1:=sl2) hI hg hq (hI.sh ▸ hrc) S1 hh hsh hsl hs2 hkd
           exact fini X1 sh2 sl2 q1 q2 q3 (hv.le q4) q6 q7 (.inr q5) h
          ·cases h
         ·cases h
       |_=>cases hrs
      |_=>cases h
     |act=>
      rw[hkd] at h
      have ha:=(zcC ho).2 hkd
      obtain⟨hA1,hA2⟩:=hok.act ha
      simp only at h
      obtain⟨q,hq,h⟩:=zd3 h
      obtain⟨hIr,hler⟩:=hI.open_ hsl (j0 b sl)
      have hrr:=hIr.stp.hr
      have hgr:=hg.le hler
      have hrel:=zai (P:=P) (gl:=gl) (I:=infos l []) (i:=i) (b:=b) hIr.env hgr
      rw[<- hI.sh] at hq
      obtain⟨rs,hm,hrs⟩:=zc8 hrr hgr hrel hq
      have hslk:zlL X0 (j0 b sl):=fun p hp=>hsl p (zaO.1 hp).1
      have fini:∀ (X1:Gst) (v:SV) (x:AV) (sh2:SH),Stp ⟨X.h,X.Φ,X.σ,xj (j0 b sl) sl X.sh⟩ X1->X1.sh=sh2->RV X1 v x->(∀ e,(∀ y w,emD P gl (infos l []) st.env me X.h i b y=some w->e y=some w)->Ev fun f=>zdL P (qy P hk (qQ P hk f)) e X.h o.op=some (x,X1.h)) ->
        (match jH st.env o.dst v with|some env=>sdr P gl ct n pl l (infos l []) (zQ P l 0) (qP P l 0) (D ||| (1 <<< i)) (j0 b sl) p ⟨env,sh2⟩ K|none=>none)=some r->Rs1 P hk l env0 X0 hs ρ D X sl K r:=by
       intro X1 v x sh2 S2 hsh2 hv2 hme h
       refine fin (.act x X1.h) X1 st.env v sh2 (j0 b sl) (hIr.stp.trans S2) (Gst.le_trans hler S2.le) hsh2 rfl (fun _=>hkd) ⟨fun⟨t,e⟩=>(by rw[hkd] at e;cases e),fun⟨a,c,e⟩=>(by cases e)⟩ rfl hv2 hslk (fun j o' t hj hkj hd _=>hIr.zlv S2 hj hkj hd) (fun ρ' k m hρi hik hm=>?_) (fun ρ' Z st' me' D' hI' hall hρ hi hFt=>?_) h
       ·have hik:=hik (by simp [Rec.hp])
        have hlive:(ρ' i).hp≠none:=by rw[hρi];simp [Rec.hp]
        refine FxK.put S2 (hm.imp id fun⟨hm1,hm2⟩=>?_)
        have keyk:∀ (loc v:Nat) (b0:SB),X.σ[loc]?=some (some (m,v))->X.sh[loc]?=some b0->b0≠.gone->(∃ p ∈ sl,p.2=loc)->∃ p ∈ j0 b sl,p.2=loc/\hold l ρ' D k p.1:=fun loc v b0 hs0 hb0 hng hp=>by
         obtain⟨p,k1,k2,k3⟩:=hm2 loc v b0 hs0 hb0 hng hp
         exact⟨p,zaO.2 ⟨k1,k3 i o.dst b hik hib hlive hok.new⟩,k2,k3⟩
        have hob:∀ (loc v:Nat) (b1:SB),X.σ[loc]?=some (some (m,v))->(xj (j0 b sl) sl X.sh)[loc]?=some b1->X.sh[loc]?=some b1:=fun loc v b1 hs0 hb1=>by
         have hi:loc<X.sh.length:=by rw[<- hr.len];exact(List.getElem?_eq_some_iff.1 hs0).1
         obtain⟨b',q1,q2⟩:=za3 (kept:=j0 b sl) (sl:=sl) (List.getElem?_eq_getElem hi)
         rw[hb1] at q1;cases q1
         rcases q2 with q2|⟨r1,r2,r3,p,r4,r5⟩
         ·rw[q2];exact List.getElem?_eq_getElem hi
         ·by_cases hg0:(X.sh[loc]'hi)=.gone
          ·rw[r2,hg0];exact(List.getElem?_eq_getElem hi).trans (by rw[hg0];rfl)
          ·obtain⟨p',k1,k2,_⟩:=keyk loc v _ hs0 (List.getElem?_eq_getElem hi) hg0 ⟨p,r4,r5⟩
           rw[w5.2 ⟨p',k1,k2⟩] at r3;cases r3
        refine⟨⟨hm1.1,hm1.2.1,fun loc v b1 hb1 hs0=>hm1.2.2 loc v b1 (hob loc v b1 hs0 hb1) hs0⟩,fun loc v b1 hs0 hb1 hng hp=>?_⟩
        obtain⟨p,k1,k2⟩:=hp
        exact keyk loc v b1 hs0 (hob loc v b1 hs0 hb1) hng ⟨p,(zaO.1 k1).1,k2⟩
       intro o2 d2 b2 ho2 hib2
       rw[ho] at ho2;cases ho2
       rw[hib] at hib2;cases hib2
       have e:=now (k:=i) hρ (Nat.le_of_lt hil) (fun j h8 h9=>(hA2 j h8).1 h9) fun j hj hne=>(hA2 j (hI'.rk j hne)).2 hj
       have hin:kL b 0 (qk ρ' i)=true:=zji fun j hj hne=>hA1 j ((hA2 j (hI'.rk j hne)).2 hj) (hI'.rk j hne)
       refine⟨(hme _ (zm5 hIr hgr hdst hok (zga hρ hok (Nat.le_refl i)) fun _ _=>rfl)).mono fun f hf=>?_,fun call=>by rw[hi];rfl⟩
       unfold j1
       rw[zV,hib]
       simp only[hw ρ' hρ,zei,hkd,zef,hin,e,hf,hi]
      cases q with
      |val v sh'=>
       cases rs with
       |val x h'=>
        obtain⟨Y,S1,hsh,hh,hv⟩:=hrs
        exact fini Y v x sh' S1 hsh hv (fun e he=>Ev.all fun f=>by unfold zdL;rw[zcr he hm,hh]) h
       |_=>cases hrs
      |unit sh'=>
       cases rs with
       |unit h'=>
        obtain⟨Y,S1,hsh,hh⟩:=hrs
        exact fini Y (.tup []) (.tup []) sh' S1 hsh ⟨[],rfl,rfl⟩ (fun e he=>Ev.all fun f=>by unfold zdL;rw[zcr he hm,hh]) h
       |_=>cases hrs
      |dfr f a c=>cases h
      |call c args=>
       cases c with
       |inr loc=>cases h
       |inl f=>
        cases rs with
        |call c' margs=>
         cases c' with
         |y _=>cases hrs
         |f f'=>
          obtain⟨rfl,hargs⟩:=hrs
          simp only at h
          rw[<- hI.sh] at h
          obtain⟨q,Y,mq,h1,S1,hcr,ev1⟩:=ihF i f R args _ r ⟨X.h,X.Φ,X.σ,xj (j0 b sl) sl X.sh⟩ margs h hargs hrr hgr
          cases q with
          |ret v sh'=>
           cases mq with
           |pan=>cases hcr
           |ret x h'=>
            obtain⟨hsh,hh,hv⟩:=hcr
            exact fini Y v x sh' S1 hsh hv (fun e he=>ev1.mono fun f p=>by unfold zdL;rw[zcr he hm];simp only[p,hh]) h1
          |pan v sh'=>cases h1
        |_=>cases hrs
    split at h
    ·rename_i hgd
     exact go (fun _ _=>zi4 hgd) h
    ·rename_i j w hgd
     split at h
     ·rename_i hbj hnh
      split at h
      ·rename_i t c hgv
       obtain⟨⟨q,hq,hqd⟩,hval,hst⟩:=zgx hI hgv (hok.sub j hbj)
       have hw:∀ ρ':Nat->Rec,(∀ k,bit D k=true->ρ' k=ρ k)->zck l o b ((qk ρ' i).map Rec.val)=some (c==w):=fun ρ' hρ=>
        zi6 hgd hbj hq hqd (by rw[zga hρ hok (Nat.le_refl i) j hbj,hval])
       cases c with
       |true=>
        simp only[cond_true,hst] at h
        cases w with
        |true=>exact go hw h
        |false=>exact off hw hnh h
       |false=>
        simp only[cond_false,hst] at h
        cases w with
        |true=>exact off hw hnh h
        |false=>exact go hw h
      ·split at h
       ·rename_i hsk
        obtain⟨q,t,vs,hq,hqd,hval⟩:=zfd hI hsk (hok.sub j hbj)
        exact off (fun ρ' hρ=>zi5 hgd hbj hq hqd (by rw[zga hρ hok (Nat.le_refl i) j hbj,hval])) hnh h
       ·cases h
     ·cases h
  ·cases h
theorem zmq{pl:Pl}:zo4 P gl ct hk l env0 X0 hs 0 pl:=by
 intro D sl p R st K r ρ X me h hI hg _
 unfold sdr at h
 cases h
theorem zfR{n:Nat}{pl:Pl}{R:Type}{K:SS->Option R}{r:R}{p:List Nat}{ms:St}(hb:(zcE l&&zah (infos l []))=true)(hao:zcB P l (infos l []) 0 0=true)(hhs:qM P l=some hs)
  (ih:zo4 P gl ct hk l ms.env X hs n pl) (h:sdr P gl ct n pl l (infos l []) (zQ P l 0) (qP P l 0) 0 [] p st K=some r) {k0:Nat×Option Nat} (hsr:StR k0 X st ms) (hr:RH X) (hg:RGl P gl X):
  ∃ st' Y ms',K st'=some r/\Stp X Y/\StR k0 Y st' ms'/\Ev fun f=>zjc ms.rnd (xU P (zfy P (qfn P hk 4) l) (qy P hk (qQ P hk f)) l ms.env ms.h ms.dl)=some (.normal,ms'):=by
 simp only[Bool.and_eq_true] at hb
 have G0:=Stp.grow hr hs
 have hnone:∀ k,hF (fun _=>Rec.off) (H0 X hs) k=H0 X hs:=fun k=>by
  induction k with
  |zero=>rfl
  |succ k ih=>exact ih
 have hI0:DI P l ms.env X hs (fun _=>.off) 0 ⟨X.h++hs,X.Φ,X.σ,X.sh⟩ st ms.env:=by
  refine⟨G0,hsr.env.le G0.le,hsr.sh,(hnone _).symm,fun _ _=>rfl,fun k t m _ h=>?_,fun t _=>rfl,fun k t m _ h=>?_,rfl,fun k d m _ h=>?_,fun k k' _ _ _ h=>?_,fun k h=>absurd rfl h,fun k o _ h=>?_,fun i o t ho hk _=>?_⟩
  ·rw[js] at h;cases h
  ·rw[js] at h;cases h
  ·rw[js] at h;cases h
  ·rw[js] at h;cases h
  ·rw[js] at h;cases h
  ·obtain⟨z,h1,h2⟩:=ky hhs ho hk
   have hlt:=(List.getElem?_eq_some_iff.1 h2).1
   refine⟨by show _<(X.h++hs).length;rw[Arr.zv];unfold mH;omega,fun j v hj=>?_,fun hΦ=>?_,fun k _=>?_⟩
   ·have:=hr.lt j _ v hj;unfold mH at this;omega
   ·have:=hr.Φlt _ hΦ;unfold mH at this;omega
   ·rw[hnone]
    show(X.h++hs)[mH P l X i]?=_
    rw[Arr.zt (by unfold mH;omega)]
    unfold mH
    rw[Nat.add_sub_cancel_left]
 obtain⟨st',Y,me',ρ',D',h1,hI,hall,S,_,_,hst⟩:=ih 0 [] p R st K r _ _ ms.env h hI0 (hg.le G0.le) (fun p hp=>by cases hp)
 have hlen:(infos l []).length=l.length:=qv _ _
 obtain⟨mf,hmf⟩:=zjF (I:=infos l []) (recs:=qk ρ' l.length) (env:=ms.env) fun k d m hk=>by
  have hkl:k<l.length:=by rw[<- hlen];exact(List.getElem?_eq_some_iff.1 hk).1
  have:=hI.dl k d m hk (hall k hkl);rw[<- hI.ml];exact this
 obtain⟨f1,f2,f3⟩:=zcK (by rw[hlen,zV]) hmf
 have hmf':mf.toL=me'.toL:=by
  refine List.ext_getElem? fun t=>?_
  rw[Arr.zS,Arr.zS]
  have hl:mf.length=me'.length:=by rw[f1,hI.ml]
  cases hx:mf[t]? with
  |none=>
   have h1:mf.toL[t]?=none:=by rw[Arr.zS];exact hx
   have h2:=List.getElem?_eq_none_iff.1 h1
   have h3:me'.toL[t]?=none:=List.getElem?_eq_none_iff.2 (by rw[Arr.qz] at h2 |-;omega)
   rw[Arr.zS] at h3;exact h3.symm
  |some x=>
   rcases f3 t x hx with⟨k,m,r',e1,e2,e3⟩|⟨e1,e2⟩
   ·have hkl:k<l.length:=by rw[<- hlen];exact(List.getElem?_eq_some_iff.1 e1).1
    rw[za4 hkl] at e2;cases e2
    rw[hI.e2 k t m e1 (hall k hkl),e3]
   ·rw[hI.e3 t fun k m hk=>absurd hk (e1 k m)];exact e2.symm
 have hheap:zaL (H0 X hs) (qk ρ' l.length)=Y.h:=by rw[zef];exact hI.hh.symm
 refine⟨st',Y,⟨mf,Y.h,ms.dl,ms.rnd⟩,h1,S,⟨hmf' ▸ hI.env,hI.sh,rfl,hsr.dk.step hr S⟩,?_⟩
 have hev:Ev fun f=>∀ i,i<l.length->∀ o,l[i]?=some o->j1 P noQ (qy P hk (qQ P hk f)) l (infos l []) ms.env X.h.length (H0 X hs) (qk ρ' i) o=some (ρ' i):=by
  have key:∀ c,c<=l.length->Ev fun f=>∀ i,i<c->∀ o,l[i]?=some o->j1 P noQ (qy P hk (qQ P hk f)) l (infos l []) ms.env X.h.length (H0 X hs) (qk ρ' i) o=some (ρ' i):=by
   intro c
   induction c with
   |zero=>exact fun _=>Ev.all fun f i hi=>absurd hi (Nat.not_lt_zero _)
   |succ c ih=>
    intro hc
    have hco:l[c]?=some (l[c]'(by omega)):=List.getElem?_eq_getElem (by omega)
    obtain⟨m,hm,_⟩:=jt hco
    refine((ih (by omega)).and (hst c (by omega) js _ _ _ hco hm).1).mono fun f ⟨q1,q2⟩ i hi o ho=>?_
    by_cases e:i=c
    ·subst e;rw[hco] at ho;cases ho;exact q2
    ·exact q1 i (by omega) o ho
  exact key _ (Nat.le_refl _)
 refine hev.mono fun f hf=>?_
 rw[show zfy P (qfn P hk 4) l=noQ by unfold zfy;rw[hao]]
 unfold xU
 rw[hb.1,hb.2,hhs]
 simp only[Bool.and_self]
 unfold zes
 rw[<- hsr.h]
 rw[show X.h++hs=H0 X hs from rfl,zmN fun i o ho=>hf i (List.getElem?_eq_some_iff.1 ho).1 o ho]
 simp only
 rw[znI hlen fun i o d b ho hi=>(hst i (List.getElem?_eq_some_iff.1 ho).1 js o d b ho hi).2 _]
 simp only[hmf,zge,hheap,zjc]
end
end Go.Sx

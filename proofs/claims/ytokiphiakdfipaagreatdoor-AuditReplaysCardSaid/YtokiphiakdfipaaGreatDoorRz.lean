/- The reference's FETCH. -/
import Derived.Test.YtokiphiakdfipaaGreatDoorRy
set_option linter.unusedVariables false
set_option linter.unusedSimpArgs false
set_option linter.unusedSectionVars false
set_option maxRecDepth 100000
namespace Go.Proofs.Model
open Go Go.Gx Go.Mx Go.Sx
abbrev O49:=(((Int)×(Int)×(List UInt8)×(Int)×(List UInt8)×(Int)×(UInt8)×(Int)×(Int)×(List UInt8)×(Int)×(Int)×(List UInt8)×(Int)×(List UInt8)×(Int)×(UInt8)×(Int)×(Int)×(List UInt8)) ⊕ ((Int)×(Int)×(List UInt8)×(Int)×(List UInt8)×(Int)×(UInt8)×(Int)×(Int)×(List UInt8)×(UInt8)))
def fz(o:O49):Rsp:=zv o (fun a=>a.2.2.2.2.2.2.2.2.2.2) (fun b=>(0,(0,([],(0,([],(0,(b.2.2.2.2.2.2.2.2.2.2,(0,(0,[]))))))))))
theorem zg4(e:List UInt8)(at_ n:Int):qy 200000 e at_ (4,(n,([],(0,([],(0,(0,(0,(0,[])))))))))=Option.bind (zD 200000 200000 e at_ 4 n [] 0 [] 0 0 0 0 [] 0) fun o=>some (fz o,()):=by
 unfold qy
 dsimp only
 congr 1
 funext o
 cases o<;>rfl
def GO(o:Option O49):Prop:=∃ v,o=some v/\Small (fz v)/\Rng (fz v)
theorem zmy(a1 a2:Int)(a3:List UInt8)(a4:Int)(a5:List UInt8)(a6:Int)(a7:UInt8)(a8 a9:Int)(a10:List UInt8):GO (some (Sum.inr (a1,a2,a3,a4,a5,a6,a7,a8,a9,a10,0))):=⟨_,rfl,⟨Nat.zero_le _,Nat.zero_le _,Nat.zero_le _⟩,⟨z32,z32,z32⟩⟩
theorem zwr{n it:Int}{fl:UInt8}{uid sz:Int}{body:List UInt8}(hn:0<=n/\n<4294967296)(hu:0<=uid/\uid<4294967296)(hs:0<=sz/\sz<4294967296)(h:body.length<=100000):GO (some (Sum.inl (4,n,[],0,[],it,fl,uid,sz,body,4,n,[],0,[],it,fl,uid,sz,body))):=⟨_,rfl,zkM h,zpv hn hu hs⟩
section
variable {e:List UInt8} (he:e.length<=100000)
include he
def tl{R:Type}(e:List UInt8)(j k it:Int)(A1 A2 A3 D:Option R)(Rc:Int->Option R):Option R:=cond (decide (j<0)) A1 (cond (decide (k<=it)) A2 (Option.bind (zq 200000 e j [41,13,10]) fun y=>cond y.1 D (Option.bind (zq 200000 e j [32]) fun y=>cond (!y.1) A3 (Rc (IntKind.wrap .i64 (j+1))))))
theorem zrZ{R:Type}{P:Option R->Prop}{j k it:Int}{A1 A2 A3 D:Option R}{Rc:Int->Option R}(hj:j=-1\/∃ q:Nat,j=q/\q<=e.length)(h1:P A1)(h2:P A2)(h3:P A3)(hD:P D)(hR:∀ q:Nat,j=q->q+1<=e.length->P (Rc ((q+1:Nat):Int))):P (tl e j k it A1 A2 A3 D Rc):=by
 unfold tl
 rcases hj with rfl|⟨q,rfl,hq⟩
 ·exact h1
 ·rw[decide_eq_false (show ¬ ((q:Nat):Int)<0 by omega),cond_false]
  cases decide (k<=it) with
  |true=>exact h2
  |false=>
   simp only[cond_false]
   rw[zb8 he 200000 hq _ (by decide)]
   simp only[Option.bind_some]
   cases pre [41,13,10] (e.drop q) with
   |true=>exact hD
   |false=>
    simp only[cond_false]
    rw[zb8 he 200000 hq _ (by decide)]
    simp only[Option.bind_some]
    cases hp:pre [32] (e.drop q) with
    |false=>exact h3
    |true=>
     obtain⟨t,ht⟩:=zb4.1 hp
     have hl:(e.drop q).length=e.length-q:=List.length_drop
     rw[ht,List.length_append,List.length_cons,List.length_nil] at hl
     simp only[Bool.not_true,cond_false]
     rw[wri (by omega) (by omega),show((q:Int)+1)=((q+1:Nat):Int) by omega]
     exact hR q rfl (by omega)
theorem zjq{R:Type}{q:Nat}{k it:Int}{A1 A2 A3 D:Option R}{Rc:Int->Option R}{t:List UInt8}(hk:¬ k<=it)(h:At e q (41::13::10::t)):tl e (q:Int) k it A1 A2 A3 D Rc=D:=by
 unfold tl
 rw[decide_eq_false (show ¬ ((q:Nat):Int)<0 by omega),decide_eq_false hk,cond_false,cond_false,zdI he 200000 h _ (by decide)]
 rfl
theorem zl8{R:Type}{q:Nat}{k it:Int}{A1 A2 A3 D:Option R}{Rc:Int->Option R}{t:List UInt8}(hk:¬ k<=it)(h:At e q (32::t)):tl e (q:Int) k it A1 A2 A3 D Rc=Rc ((q+1:Nat):Int):=by
 have hl:=h.len
 rw[List.length_cons] at hl
 unfold tl
 rw[decide_eq_false (show ¬ ((q:Nat):Int)<0 by omega),decide_eq_false hk,cond_false,cond_false,zdI he 200000 h _ (by decide)]
 rw[show pre [41,13,10] (32::t)=false from rfl]
 simp only[Option.bind_some,cond_false]
 rw[zdI he 200000 h _ (by decide),show pre [32] (32::t)=true from rfl]
 simp only[Option.bind_some,Bool.not_true,cond_false]
 rw[wri (by omega) (by omega),show((q:Int)+1)=((q+1:Nat):Int) by omega]
end
def zuC(e:List UInt8)(m:Nat)(n:Int)(a it:Int)(fl:UInt8)(uid sz:Int)(body:List UInt8):Option O49:=
 let z:=fun(it:Int) (fl:UInt8) (uid sz:Int) (body:List UInt8)=>(some (Sum.inr ((4:Int),n,([]:List UInt8),(0:Int),([]:List UInt8),it,fl,uid,sz,body,(0:UInt8))):Option O49)
 let d:=fun(it:Int) (fl:UInt8) (uid sz:Int) (body:List UInt8)=>(some (Sum.inl ((4:Int),n,([]:List UInt8),(0:Int),([]:List UInt8),it,fl,uid,sz,body,(4:Int),n,([]:List UInt8),(0:Int),([]:List UInt8),it,fl,uid,sz,body)):Option O49)
 let r:=fun(a it:Int) (fl:UInt8) (uid sz:Int) (body:List UInt8)=>zD 200000 m e a 4 n [] 0 [] it fl uid sz body 0
 Option.bind (zq 200000 e a [70,76,65,71,83,32]) fun y50=>cond y50.1 (Option.bind (jC 200000 e (IntKind.wrap .i64 (a+6))) fun y=>tl e y.2.1 1 it (z it (zbP y.1) uid sz body) (z it (zbP y.1) uid sz body) (z (zd .or .i64 it 1) (zbP y.1) uid sz body) (d (zd .or .i64 it 1) (zbP y.1) uid sz body) fun q=>r q (zd .or .i64 it 1) (zbP y.1) uid sz body)
  (Option.bind (zq 200000 e a [85,73,68,32]) fun y54=>cond y54.1 (Option.bind (qu 200000 e (IntKind.wrap .i64 (a+4))) fun y=>tl e y.2.1 2 it (z it fl y.1 sz body) (z it fl y.1 sz body) (z (zd .or .i64 it 2) fl y.1 sz body) (d (zd .or .i64 it 2) fl y.1 sz body) fun q=>r q (zd .or .i64 it 2) fl y.1 sz body)
   (Option.bind (zq 200000 e a [82,70,67,56,50,50,46,83,73,90,69,32]) fun y58=>cond y58.1 (Option.bind (qu 200000 e (IntKind.wrap .i64 (a+12))) fun y=>tl e y.2.1 4 it (z it fl uid y.1 body) (z it fl uid y.1 body) (z (zd .or .i64 it 4) fl uid y.1 body) (d (zd .or .i64 it 4) fl uid y.1 body) fun q=>r q (zd .or .i64 it 4) fl uid y.1 body)
    (Option.bind (zq 200000 e a [66,79,68,89,91,93,32]) fun y62=>cond y62.1 (Option.bind (zO 200000 e (IntKind.wrap .i64 (a+7))) fun y=>cond (!y.2.2.1) (z it fl uid sz y.1) (tl e y.2.1 16 it (z it fl uid sz y.1) (z it fl uid sz y.1) (z (zd .or .i64 it 16) fl uid sz y.1) (d (zd .or .i64 it 16) fl uid sz y.1) fun q=>r q (zd .or .i64 it 16) fl uid sz y.1))
     (z it fl uid sz body))))
theorem zg3(e:List UInt8)(m:Nat)(n:Int)(a it:Int)(fl:UInt8)(uid sz:Int)(body:List UInt8):zD 200000 (m+1) e a 4 n [] 0 [] it fl uid sz body 0=zuC e m n a it fl uid sz body:=by kernel_rfl
theorem zt1{e:List UInt8}(he:e.length<=100000){i:Nat}(hi:i<=e.length):∃ (x:List UInt8) (j:Int) (ok:Bool),zO 200000 e (i:Int)=some (x,j,ok,())/\x.length<=e.length/\(ok=true->∃ q:Nat,j=q/\i<q/\q<=e.length):=by
 rcases Nat.lt_or_ge i e.length with h|h
 ·by_cases hc:e[i]=123
  ·rw[zmF 200000 e he (by omega) (by omega) i h hc]
   unfold zq5
   split
   ·exact⟨[],0,false,rfl,Nat.zero_le _,fun h=>by cases h⟩
   ·split
    ·exact⟨[],0,false,rfl,Nat.zero_le _,fun h=>by cases h⟩
    ·split
     ·rename_i hcc;exact⟨_,_,true,rfl,jx,fun _=>⟨_,rfl,by omega,hcc.2.2.2⟩⟩
     ·exact⟨[],0,false,rfl,Nat.zero_le _,fun h=>by cases h⟩
  ·refine⟨[],0,false,?_,Nat.zero_le _,fun h=>by cases h⟩
   unfold zO
   have d0:decide ((i:Int)<0)=false:=by simp
   have d1:decide (((e.length:Nat):Int)<=(i:Int))=false:=by simp;omega
   have hne:(e[i] != (123:UInt8))=true:=by rw[bne_iff_ne];exact hc
   simp only[d0,d1,cond_false,qi h,cond_true,Int.toNat_natCast,wR (u:=.u8) h,hne]
 ·refine⟨[],0,false,?_,Nat.zero_le _,fun h=>by cases h⟩
  unfold zO
  have d0:decide ((i:Int)<0)=false:=by simp
  have d1:decide (((e.length:Nat):Int)<=(i:Int))=true:=by simp;omega
  simp only[d0,d1,cond_false,cond_true]
theorem zg1{e:List UInt8}{a:Nat}{s:List UInt8}(ha:a<=e.length)(h:pre s (e.drop a)=true):a+s.length<=e.length:=by
 obtain⟨t,ht⟩:=zb4.1 h
 have hl:(e.drop a).length=e.length-a:=List.length_drop
 rw[ht,List.length_append] at hl
 omega
theorem zsp{e:List UInt8}(he:e.length<=100000){n:Int}(hn:0<=n/\n<4294967296):∀ (m a:Nat) (it:Int) (fl:UInt8) (uid sz:Int) (body:List UInt8),a<=e.length->e.length<m+a->(0<=uid/\uid<4294967296)->(0<=sz/\sz<4294967296)->body.length<=100000 ->
  GO (zD 200000 m e (a:Int) 4 n [] 0 [] it fl uid sz body 0)
 |0,a,it,fl,uid,sz,body,ha,hm,hu,hs,hb=>by omega
 |m+1,a,it,fl,uid,sz,body,ha,hm,hu,hs,hb=>by
  have ih:=fun(q:Nat) (hq:a<q) (hq2:q<=e.length) it fl uid sz body hu hs hb=>zsp he hn m q it fl uid sz body hq2 (by omega) hu hs hb
  rw[zg3]
  unfold zuC
  dsimp only
  rw[zb8 he 200000 ha _ (by decide)]
  simp only[Option.bind_some]
  cases h1:pre [70,76,65,71,83,32] (e.drop a) with
  |true=>
   have hl:=zg1 ha h1
   simp only[cond_true]
   rw[wri (by simp at hl;omega) (by simp at hl;omega),show((a:Int)+6)=((a+6:Nat):Int) by omega]
   obtain⟨f,j,e1,hj⟩:=zt0 he (show a+6<=e.length from hl)
   rw[e1]
   simp only[Option.bind_some]
   exact zrZ he (hj.imp id fun⟨k,h1,_,h2⟩=>⟨k,h1,h2⟩) (zmy ..) (zmy ..) (zmy ..) (zwr hn hu hs hb) fun q hq hq2=>ih (q+1) (by rcases hj with rfl|⟨k,rfl,h1,h2⟩<;>omega) hq2 _ _ _ _ _ hu hs hb
  |false=>
   simp only[cond_false]
   rw[zb8 he 200000 ha _ (by decide)]
   simp only[Option.bind_some]
   cases h1:pre [85,73,68,32] (e.drop a) with
   |true=>
    have hl:=zg1 ha h1
    simp only[cond_true]
    rw[wri (by simp at hl;omega) (by simp at hl;omega),show((a:Int)+4)=((a+4:Nat):Int) by omega]
    obtain⟨f,j,e1,hf,hj⟩:=zpw he (show a+4<=e.length from hl)
    rw[e1]
    simp only[Option.bind_some]
    exact zrZ he (hj.imp id fun⟨k,h1,_,h2⟩=>⟨k,h1,h2⟩) (zmy ..) (zmy ..) (zmy ..) (zwr hn hf hs hb) fun q hq hq2=>ih (q+1) (by rcases hj with rfl|⟨k,rfl,h1,h2⟩<;>omega) hq2 _ _ _ _ _ hf hs hb
   |false=>
    simp only[cond_false]
    rw[zb8 he 200000 ha _ (by decide)]
    simp only[Option.bind_some]
    cases h1:pre [82,70,67,56,50,50,46,83,73,90,69,32] (e.drop a) with
    |true=>
     have hl:=zg1 ha h1
     simp only[cond_true]
     rw[wri (by simp at hl;omega) (by simp at hl;omega),show((a:Int)+12)=((a+12:Nat):Int) by omega]
     obtain⟨f,j,e1,hf,hj⟩:=zpw he (show a+12<=e.length from hl)
     rw[e1]
     simp only[Option.bind_some]
     exact zrZ he (hj.imp id fun⟨k,h1,_,h2⟩=>⟨k,h1,h2⟩) (zmy ..) (zmy ..) (zmy ..) (zwr hn hu hf hb) fun q hq hq2=>ih (q+1) (by rcases hj with rfl|⟨k,rfl,h1,h2⟩<;>omega) hq2 _ _ _ _ _ hu hf hb
    |false=>
     simp only[cond_false]
     rw[zb8 he 200000 ha _ (by decide)]
     simp only[Option.bind_some]
     cases h1:pre [66,79,68,89,91,93,32] (e.drop a) with
     |true=>
      have hl:=zg1 ha h1
      simp only[cond_true]
      rw[wri (by simp at hl;omega) (by simp at hl;omega),show((a:Int)+7)=((a+7:Nat):Int) by omega]
      obtain⟨x,j,ok,e1,hx,hj⟩:=zt1 he (show a+7<=e.length from hl)
      rw[e1]
      simp only[Option.bind_some]
      cases ok with
      |false=>exact zmy ..
      |true=>
       obtain⟨k,rfl,h1,h2⟩:=hj rfl
       simp only[Bool.not_true,cond_false]
       exact zrZ he (.inr ⟨k,rfl,h2⟩) (zmy ..) (zmy ..) (zmy ..) (zwr hn hu hs (Nat.le_trans hx he)) fun q hq hq2=>ih (q+1) (by omega) hq2 _ _ _ _ _ hu hs (Nat.le_trans hx he)
     |false=>exact zmy ..
end Go.Proofs.Model

/- The reference's FETCH reads its items. -/
import Derived.Test.YtokiphiakdfipaaGreatDoorRz
import Derived.Test.YtokiphiakdfipaaGreatDoorSa
set_option linter.unusedVariables false
set_option linter.unusedSimpArgs false
set_option linter.unusedSectionVars false
set_option maxRecDepth 100000
namespace Go.Proofs.Model
open Go Go.Gx Go.Mx Go.Sx
def dI(n it:Int)(fl:UInt8)(uid sz:Int)(body:List UInt8):Option O49:=some (Sum.inl (4,n,[],0,[],it,fl,uid,sz,body,4,n,[],0,[],it,fl,uid,sz,body))
theorem zup(fl:UInt8):zbP ((fl.toNat:Nat):Int)=fl:=by
 rw[kN (show fl.toNat<256 from fl.toNat_lt)]
 simp
section
variable {e:List UInt8} (he:e.length<=100000) (n:Int)
include he
theorem L16{a m:Nat}{it:Int}{fl:UInt8}{uid sz:Int}{body t:List UInt8}(hit:it<16)(hl:body.length<=65536)(h:At e a (pB body++41::13::10::t)):zD 200000 (m+1) e (a:Int) 4 n [] 0 [] it fl uid sz [] 0=dI n (orI it 16) fl uid sz body:=by
 have hle:=h.le
 rw[zg3]
 unfold zuC
 dsimp only
 rw[zdI he 200000 h _ (by decide),show pre [70,76,65,71,83,32] (pB body++41::13::10::t)=false from rfl]
 simp only[Option.bind_some,cond_false]
 rw[zdI he 200000 h _ (by decide),show pre [85,73,68,32] (pB body++41::13::10::t)=false from rfl]
 simp only[Option.bind_some,cond_false]
 rw[zdI he 200000 h _ (by decide),show pre [82,70,67,56,50,50,46,83,73,90,69,32] (pB body++41::13::10::t)=false from rfl]
 simp only[Option.bind_some,cond_false]
 rw[zdI he 200000 h _ (by decide),show pre [66,79,68,89,91,93,32] (pB body++41::13::10::t)=true from rfl]
 simp only[Option.bind_some,cond_true]
 have h':At e a ([66,79,68,89,91,93,32]++(ze0 body++41::13::10::t)):=by unfold pB at h;simpa using h
 have h2:At e (a+7) (ze0 body++41::13::10::t):=h'.app
 rw[wri (by omega) (by omega),show((a:Int)+7)=((a+7:Nat):Int) by omega,zt2 he hl h2]
 simp only[Option.bind_some,Bool.not_true,cond_false]
 rw[zjq he (by omega) h2.app]
 rfl
theorem L4{a m:Nat}{it:Int}{fl:UInt8}{uid:Int}{sz:Nat}{b4 b16:Bool}{body t:List UInt8}(hit:it<4)(ho:orI it 4<16)(hl:body.length<=65536)(hz:b16=false->body=[])(hs:sz<4294967296)(hz4:b4=false->sz=0)(hb:(b4||b16)=true)(h:At e a (s4 false b4 b16 sz body (13::10::t))):
  zD 200000 (m+2) e (a:Int) 4 n [] 0 [] it fl uid 0 [] 0=dI n (cond b16 (orI (cond b4 (orI it 4) it) 16) (cond b4 (orI it 4) it)) fl uid sz body:=by
 cases b4 with
 |false=>
  obtain rfl:b16=true:=hb
  obtain rfl:=hz4 rfl
  exact L16 he n (by omega) hl h
 |true=>
  have hle:=h.le
  replace h:At e a (pS sz++s16 true b16 body (13::10::t)):=h
  rw[show m+2=(m+1)+1 from rfl,zg3]
  unfold zuC
  dsimp only
  rw[zdI he 200000 h _ (by decide),show pre [70,76,65,71,83,32] (pS sz++s16 true b16 body (13::10::t))=false from rfl]
  simp only[Option.bind_some,cond_false]
  rw[zdI he 200000 h _ (by decide),show pre [85,73,68,32] (pS sz++s16 true b16 body (13::10::t))=false from rfl]
  simp only[Option.bind_some,cond_false]
  rw[zdI he 200000 h _ (by decide),show pre [82,70,67,56,50,50,46,83,73,90,69,32] (pS sz++s16 true b16 body (13::10::t))=true from rfl]
  simp only[Option.bind_some,cond_true]
  have h':At e a ([82,70,67,56,50,50,46,83,73,90,69,32]++(dec sz++s16 true b16 body (13::10::t))):=by unfold pS at h;simpa using h
  have h2:At e (a+12) (dec sz++s16 true b16 body (13::10::t)):=h'.app
  have h3:=h2.app
  obtain⟨c,r,ec,hc⟩:=zje b16 body (13::10::t)
  rw[ec] at h2
  rw[wri (by omega) (by omega),show((a:Int)+12)=((a+12:Nat):Int) by omega,zsD he hs h2 hc]
  simp only[Option.bind_some]
  cases b16 with
  |false=>
   obtain rfl:=hz rfl
   rw[zjq he (by omega) h3];rfl
  |true=>
   rw[zl8 he (by omega) h3]
   exact L16 he n ho hl (At.app (s:=[32]) h3)
theorem L2{a m:Nat}{it:Int}{fl:UInt8}{uid sz:Nat}{b2 b4 b16:Bool}{body t:List UInt8}(hit:it<2)(ho:orI it 2<4)(ho4:∀ x,x=it\/x=orI it 2->orI x 4<16)(hl:body.length<=65536)(hz:b16=false->body=[])(hs:sz<4294967296)(hu:uid<4294967296)(hz4:b4=false->sz=0)(hz2:b2=false->uid=0)(hb:(b2||(b4||b16))=true)(h:At e a (s2 false b2 b4 b16 uid sz body (13::10::t))):
  zD 200000 (m+3) e (a:Int) 4 n [] 0 [] it fl 0 0 [] 0=dI n (cond b16 (orI (cond b4 (orI (cond b2 (orI it 2) it) 4) (cond b2 (orI it 2) it)) 16) (cond b4 (orI (cond b2 (orI it 2) it) 4) (cond b2 (orI it 2) it))) fl uid sz body:=by
 cases b2 with
 |false=>
  obtain rfl:=hz2 rfl
  exact L4 he n (m:=m+1) (by omega) (ho4 _ (.inl rfl)) hl hz hs hz4 hb h
 |true=>
  have hle:=h.le
  replace h:At e a (pU uid++s4 true b4 b16 sz body (13::10::t)):=h
  rw[show m+3=(m+2)+1 from rfl,zg3]
  unfold zuC
  dsimp only
  rw[zdI he 200000 h _ (by decide),show pre [70,76,65,71,83,32] (pU uid++s4 true b4 b16 sz body (13::10::t))=false from rfl]
  simp only[Option.bind_some,cond_false]
  rw[zdI he 200000 h _ (by decide),show pre [85,73,68,32] (pU uid++s4 true b4 b16 sz body (13::10::t))=true from rfl]
  simp only[Option.bind_some,cond_true]
  have h':At e a ([85,73,68,32]++(dec uid++s4 true b4 b16 sz body (13::10::t))):=by unfold pU at h;simpa using h
  have h2:At e (a+4) (dec uid++s4 true b4 b16 sz body (13::10::t)):=h'.app
  have h3:=h2.app
  obtain⟨c,r,ec,hc⟩:=zpG b4 b16 sz body (13::10::t)
  rw[ec] at h2
  rw[wri (by omega) (by omega),show((a:Int)+4)=((a+4:Nat):Int) by omega,zsD he hu h2 hc]
  simp only[Option.bind_some]
  by_cases hr:(b4||b16)=true
  ·have h4:At e (a+4+(dec uid).length) (32::s4 false b4 b16 sz body (13::10::t)):=by
    cases b4
    ·obtain rfl:b16=true:=hr
     exact h3
    ·exact h3
   rw[zl8 he (by omega) h4]
   exact L4 he n ho (ho4 _ (.inr rfl)) hl hz hs hz4 hr (At.app (s:=[32]) h4)
  ·obtain⟨rfl,rfl⟩:b4=false/\b16=false:=by cases b4<;>cases b16<;>simp_all
   obtain rfl:=hz rfl
   obtain rfl:=hz4 rfl
   rw[zjq he (by omega) h3];rfl
theorem L1{a m:Nat}{fl:UInt8}{uid sz:Nat}{b1 b2 b4 b16:Bool}{body t:List UInt8}(hf:fl<=31)(hl:body.length<=65536)(hz:b16=false->body=[])(hs:sz<4294967296)(hu:uid<4294967296)(hz4:b4=false->sz=0)(hz2:b2=false->uid=0)(hz1:b1=false->fl=0)(hb:(b1||(b2||(b4||b16)))=true)(h:At e a (jg b1 b2 b4 b16 fl uid sz body++41::13::10::t)):
  zD 200000 (m+4) e (a:Int) 4 n [] 0 [] 0 0 0 0 [] 0=dI n (itB b1 b2 b4 b16) fl uid sz body:=by
 rw[<- zmN he b1 b2 b4 b16]
 rw[<- zvB] at h
 cases b1 with
 |false=>
  obtain rfl:=hz1 rfl
  exact L2 he n (m:=m+1) (by decide) (by decide) (by rintro x (rfl|rfl)<;>decide) hl hz hs hu hz4 hz2 hb h
 |true=>
  have hle:=h.le
  replace h:At e a (pF fl++s2 true b2 b4 b16 uid sz body (13::10::t)):=h
  rw[show m+4=(m+3)+1 from rfl,zg3]
  unfold zuC
  dsimp only
  rw[zdI he 200000 h _ (by decide),show pre [70,76,65,71,83,32] (pF fl++s2 true b2 b4 b16 uid sz body (13::10::t))=true from rfl]
  simp only[Option.bind_some,cond_true]
  have h':At e a ([70,76,65,71,83,32]++(flB fl++41::s2 true b2 b4 b16 uid sz body (13::10::t))):=by unfold pF at h;simpa using h
  have h2:At e (a+6) (flB fl++41::s2 true b2 b4 b16 uid sz body (13::10::t)):=h'.app
  have h3:At e (a+6+(flB fl).length+1) (s2 true b2 b4 b16 uid sz body (13::10::t)):=At.app (s:=[41]) h2.app
  rw[wri (by omega) (by omega),show((a:Int)+6)=((a+6:Nat):Int) by omega,zvv he hf h2]
  simp only[Option.bind_some,zup]
  by_cases hr:(b2||(b4||b16))=true
  ·have h4:At e (a+6+(flB fl).length+1) (32::s2 false b2 b4 b16 uid sz body (13::10::t)):=by
    cases b2
    ·cases b4
     ·obtain rfl:b16=true:=hr
      exact h3
     ·exact h3
    ·exact h3
   rw[zl8 he (by decide) h4]
   exact L2 he n (it:=orI 0 1) (by decide) (by decide) (by rintro x (rfl|rfl)<;>decide) hl hz hs hu hz4 hz2 hr (At.app (s:=[32]) h4)
  ·obtain⟨rfl,rfl,rfl⟩:b2=false/\b4=false/\b16=false:=by cases b2<;>cases b4<;>cases b16<;>simp_all
   obtain rfl:=hz rfl
   obtain rfl:=hz4 rfl
   obtain rfl:=hz2 rfl
   rw[zjq he (by decide) h3];rfl
theorem ztZ(hn:0<=n/\n<4294967296){a:Nat}(ha:a<=e.length):∃ r,qy 200000 e (a:Int) (4,(n,([],(0,([],(0,(0,(0,(0,[])))))))))=some (r,())/\Small r/\Rng r:=by
 rw[zg4]
 obtain⟨v,e1,h1,h2⟩:=zsp he hn 200000 a 0 0 0 0 [] ha (by omega) z32 z32 (Nat.zero_le _)
 rw[e1]
 exact⟨_,rfl,h1,h2⟩
theorem zvu{a:Nat}{fl:UInt8}{uid sz:Nat}{b1 b2 b4 b16:Bool}{body t:List UInt8}(hf:fl<=31)(hl:body.length<=65536)(hz:b16=false->body=[])(hs:sz<4294967296)(hu:uid<4294967296)(hz4:b4=false->sz=0)(hz2:b2=false->uid=0)(hz1:b1=false->fl=0)(hb:(b1||(b2||(b4||b16)))=true)(h:At e a (jg b1 b2 b4 b16 fl uid sz body++41::13::10::t)):
  qy 200000 e (a:Int) (4,(n,([],(0,([],(0,(0,(0,(0,[])))))))))=some ((4,(n,([],(0,([],(itB b1 b2 b4 b16,(fl,((uid:Int),((sz:Int),body))))))))),()):=by
 rw[zg4,show(200000:Nat)=199996+4 from rfl,show(199996+4:Nat)=200000 from rfl]
 have:=L1 he n (m:=199996) hf hl hz hs hu hz4 hz2 hz1 hb h
 rw[show(199996+4:Nat)=200000 from rfl] at this
 rw[this]
 rfl
end
end Go.Proofs.Model

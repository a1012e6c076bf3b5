/- The reader's FETCH reads what is written, and always comes to an end. -/
import Derived.Test.YtljnndccimlnlaaGreatDoorRn
set_option linter.unusedVariables false
set_option linter.unusedSimpArgs false
set_option linter.unusedSectionVars false
set_option maxRecDepth 100000
namespace Go.Proofs.Model
open Go Go.Gx Go.Mx Go.Sx
def sp(more:Bool)(x:List UInt8):List UInt8:=cond more (32::x) x
def s16(more b16:Bool)(body t:List UInt8):List UInt8:=(cond b16 (sp more (pB body)) [])++41::t
def s4(more b4 b16:Bool)(sz:Nat)(body t:List UInt8):List UInt8:=(cond b4 (sp more (pS sz)) [])++s16 (more||b4) b16 body t
def s2(more b2 b4 b16:Bool)(uid sz:Nat)(body t:List UInt8):List UInt8:=(cond b2 (sp more (pU uid)) [])++s4 (more||b2) b4 b16 sz body t
def s1(b1 b2 b4 b16:Bool)(fl:UInt8)(uid sz:Nat)(body t:List UInt8):List UInt8:=(cond b1 (pF fl) [])++s2 b1 b2 b4 b16 uid sz body t
theorem zwD(b1 b2 b4 b16:Bool)(fl:UInt8)(uid sz:Nat)(body t:List UInt8):s1 b1 b2 b4 b16 fl uid sz body t=j6 b1 b2 b4 b16 fl uid sz body++41::t:=by
 unfold s1 s2 s4 s16 sp j6 zf8
 cases b1<;>cases b2<;>cases b4<;>cases b16<;>simp only[cond_true,cond_false,Bool.or_true,Bool.or_false,Bool.true_or,List.nil_append,List.cons_append,List.append_nil,j1,j2,j3,j4,Go.Lib.join_nil,List.append_assoc,Bool.false_or]
theorem zjN(b16:Bool)(body t:List UInt8):∃ c r,s16 true b16 body t=c::r/\zbx c=false:=by
 cases b16
 ·exact⟨41,t,rfl,by decide⟩
 ·exact⟨32,_,rfl,by decide⟩
theorem zqe(b4 b16:Bool)(sz:Nat)(body t:List UInt8):∃ c r,s4 true b4 b16 sz body t=c::r/\zbx c=false:=by
 cases b4
 ·exact zjN b16 body t
 ·exact⟨32,_,rfl,by decide⟩
theorem zla{a c:UInt8}{s r:List UInt8}(h:(a==c)=false):pre (a::s) (c::r)=false:=by unfold pre;simp [List.isPrefixOf,h]
def orI(it k:Int):Int:=zd .or .i64 it k
section
variable {b:List UInt8} (hb:b.length<=100000) (p1:Int)
include hb
theorem zv3{i:Nat}{it:Int}{fl:UInt8}{uid sz:Int}{b16:Bool}{body t:List UInt8}(hl:body.length<=65536)(hz:b16=false->body=[])(h:At b i (s16 (it != 0) b16 body t)):
  ∃ s,f16 200000 p1 it fl uid sz (b,(i:Int))=zob p1 s (cond b16 (orI it 16) it) fl uid sz body:=by
 unfold f16
 unfold s16 at h
 cases b16 with
 |false=>
  obtain rfl:=hz rfl
  simp only[cond_false,List.nil_append] at h |-
  cases it != 0 with
  |false=>exact⟨_,zgM hb (by decide) h (zla (by decide))⟩
  |true=>exact⟨_,zjn hb (by decide) h (zla (by decide))⟩
 |true=>
  simp only[cond_true] at h |-
  have fin:∀ j:Nat,At b j (ze9 body++41::t)->∃ s,(Option.bind (zm 200000 b (j:Int)) fun y=>cond y.2.2.1 (cond (!y.2.2.1) (zro (b,y.2.1)) (zob p1 (b,y.2.1) (zd .or .i64 it 16) fl uid sz y.1)) (cond (!y.2.2.1) (zro (b,(j:Int))) (zob p1 (b,(j:Int)) (zd .or .i64 it 16) fl uid sz [])))=zob p1 s (orI it 16) fl uid sz body:=fun j hj=>by
   rw[zwM hb hl hj];exact⟨_,rfl⟩
  cases hit:it != 0 with
  |false=>
   rw[hit] at h
   have h:At b i ([66,79,68,89,91,93,32]++(ze9 body++41::t)):=by unfold sp pB at h;simpa using h
   rw[zjm hb (by decide) h]
   exact fin _ h.app
  |true=>
   rw[hit] at h
   have h:At b i (32::([66,79,68,89,91,93,32]++(ze9 body++41::t))):=by unfold sp pB at h;simpa using h
   rw[zl6 hb (by decide) h]
   have h2:At b (i+1) ([66,79,68,89,91,93,32]++(ze9 body++41::t)):=At.app (s:=[32]) h
   exact fin _ h2.app
theorem zyh{i:Nat}{it:Int}{fl:UInt8}{uid:Int}{sz:Nat}{b4 b16:Bool}{body t:List UInt8}(hl:body.length<=65536)(hz:b16=false->body=[])(hs:sz<4294967296)(hz4:b4=false->sz=0)(ho:b4=true->(orI it 4 != 0)=true)(h:At b i (s4 (it != 0) b4 b16 sz body t)):
  ∃ s,f4 200000 p1 it fl uid (b,(i:Int))=zob p1 s (cond b16 (orI (cond b4 (orI it 4) it) 16) (cond b4 (orI it 4) it)) fl uid sz body:=by
 unfold f4
 unfold s4 at h
 cases b4 with
 |false=>
  obtain rfl:=hz4 rfl
  simp only[cond_false,List.nil_append,Bool.or_false] at h |-
  have h16:=zv3 hb p1 (fl:=fl) (uid:=uid) (sz:=((0:Nat):Int)) hl hz h
  cases hit:it != 0 with
  |false=>
   rw[hit] at h
   rw[zgM hb (by decide) h (by cases b16<;>rfl)]
   exact h16
  |true=>
   rw[hit] at h
   rw[zjn hb (by decide) h (by cases b16<;>rfl)]
   exact h16
 |true=>
  simp only[cond_true,Bool.or_true] at h |-
  have fin:∀ j:Nat,At b j (dec sz++s16 true b16 body t)->∃ s,(Option.bind (zr 200000 (b,(j:Int))) fun y=>cond (!y.2.2.1) (zro y.1) (f16 200000 p1 (zd .or .i64 it 4) fl uid y.2.1 y.1))=zob p1 s (cond b16 (orI (orI it 4) 16) (orI it 4)) fl uid sz body:=fun j hj=>by
   obtain⟨c,r,e,hc⟩:=zjN b16 body t
   have hj2:At b (j+(dec sz).length) (s16 (orI it 4 != 0) b16 body t):=by rw[ho rfl];exact hj.app
   rw[e] at hj
   rw[zjG 200000 hb (by omega) (by omega) hs hj hc]
   exact zv3 hb p1 hl hz hj2
  cases hit:it != 0 with
  |false=>
   rw[hit] at h
   have h:At b i ([82,70,67,56,50,50,46,83,73,90,69,32]++(dec sz++s16 true b16 body t)):=by unfold sp pS at h;simpa using h
   rw[zjm hb (by decide) h]
   exact fin _ h.app
  |true=>
   rw[hit] at h
   have h:At b i (32::([82,70,67,56,50,50,46,83,73,90,69,32]++(dec sz++s16 true b16 body t))):=by unfold sp pS at h;simpa using h
   rw[zl6 hb (by decide) h]
   have h2:At b (i+1) ([82,70,67,56,50,50,46,83,73,90,69,32]++(dec sz++s16 true b16 body t)):=At.app (s:=[32]) h
   exact fin _ h2.app
theorem zyg{i:Nat}{it:Int}{fl:UInt8}{uid sz:Nat}{b2 b4 b16:Bool}{body t:List UInt8}(hl:body.length<=65536)(hz:b16=false->body=[])(hs:sz<4294967296)(hu:uid<4294967296)(hz4:b4=false->sz=0)(hz2:b2=false->uid=0)(ho:(orI it 2 != 0)=true)(ho4:∀ x,x=it\/x=orI it 2->(orI x 4 != 0)=true)(h:At b i (s2 (it != 0) b2 b4 b16 uid sz body t)):
  ∃ s,f2 200000 p1 it fl (b,(i:Int))=zob p1 s (cond b16 (orI (cond b4 (orI (cond b2 (orI it 2) it) 4) (cond b2 (orI it 2) it)) 16) (cond b4 (orI (cond b2 (orI it 2) it) 4) (cond b2 (orI it 2) it))) fl uid sz body:=by
 unfold f2
 unfold s2 at h
 cases b2 with
 |false=>
  obtain rfl:=hz2 rfl
  simp only[cond_false,List.nil_append,Bool.or_false] at h |-
  have h4:=zyh hb p1 (fl:=fl) (uid:=((0:Nat):Int)) hl hz hs hz4 (fun _=>ho4 it (.inl rfl)) h
  cases hit:it != 0 with
  |false=>
   rw[hit] at h
   rw[zgM hb (by decide) h (by cases b4<;>cases b16<;>rfl)]
   exact h4
  |true=>
   rw[hit] at h
   rw[zjn hb (by decide) h (by cases b4<;>cases b16<;>rfl)]
   exact h4
 |true=>
  simp only[cond_true,Bool.or_true] at h |-
  have fin:∀ j:Nat,At b j (dec uid++s4 true b4 b16 sz body t)->∃ s,(Option.bind (zr 200000 (b,(j:Int))) fun y=>cond (!y.2.2.1) (zro y.1) (f4 200000 p1 (zd .or .i64 it 2) fl y.2.1 y.1))=zob p1 s (cond b16 (orI (cond b4 (orI (orI it 2) 4) (orI it 2)) 16) (cond b4 (orI (orI it 2) 4) (orI it 2))) fl uid sz body:=fun j hj=>by
   obtain⟨c,r,e,hc⟩:=zqe b4 b16 sz body t
   have hj2:At b (j+(dec uid).length) (s4 (orI it 2 != 0) b4 b16 sz body t):=by rw[ho];exact hj.app
   rw[e] at hj
   rw[zjG 200000 hb (by omega) (by omega) hu hj hc]
   exact zyh hb p1 hl hz hs hz4 (fun _=>ho4 _ (.inr rfl)) hj2
  cases hit:it != 0 with
  |false=>
   rw[hit] at h
   have h:At b i ([85,73,68,32]++(dec uid++s4 true b4 b16 sz body t)):=by unfold sp pU at h;simpa using h
   rw[zjm hb (by decide) h]
   exact fin _ h.app
  |true=>
   rw[hit] at h
   have h:At b i (32::([85,73,68,32]++(dec uid++s4 true b4 b16 sz body t))):=by unfold sp pU at h;simpa using h
   rw[zl6 hb (by decide) h]
   have h2:At b (i+1) ([85,73,68,32]++(dec uid++s4 true b4 b16 sz body t)):=At.app (s:=[32]) h
   exact fin _ h2.app
theorem znq:∀ b1 b2 b4 b16:Bool,(cond b16 (orI (cond b4 (orI (cond b2 (orI (cond b1 1 0) 2) (cond b1 1 0)) 4) (cond b2 (orI (cond b1 1 0) 2) (cond b1 1 0))) 16) (cond b4 (orI (cond b2 (orI (cond b1 1 0) 2) (cond b1 1 0)) 4) (cond b2 (orI (cond b1 1 0) 2) (cond b1 1 0))))=itB b1 b2 b4 b16:=by
 intro b1 b2 b4 b16;cases b1<;>cases b2<;>cases b4<;>cases b16<;>decide
theorem zyw{i:Nat}{fl:UInt8}{uid sz:Nat}{b1 b2 b4 b16:Bool}{body t:List UInt8}(hf:fl<=31)(hl:body.length<=65536)(hz:b16=false->body=[])(hs:sz<4294967296)(hu:uid<4294967296)(hz4:b4=false->sz=0)(hz2:b2=false->uid=0)(hz1:b1=false->fl=0)(h:At b i (j6 b1 b2 b4 b16 fl uid sz body++41::t)):
  ∃ s,zV 200000 (b,(i:Int)) p1=zob p1 s (itB b1 b2 b4 b16) fl uid sz body:=by
 rw[zis]
 rw[<- zwD] at h
 rw[<- znq hb b1 b2 b4 b16]
 unfold f1
 unfold s1 at h
 cases b1 with
 |false=>
  obtain rfl:=hz1 rfl
  simp only[cond_false,List.nil_append] at h |-
  rw[zgM hb (by decide) h (by cases b2<;>cases b4<;>cases b16<;>rfl)]
  exact zyg hb p1 hl hz hs hu hz4 hz2 (by decide) (by rintro x (rfl|rfl)<;>decide) h
 |true=>
  simp only[cond_true] at h |-
  obtain⟨_,_,g3,_,g5,g6⟩:=zaV fl hf
  have h:At b i ([70,76,65,71,83,32]++(flB fl++(41::[])++s2 true b2 b4 b16 uid sz body t)):=by unfold pF at h;simpa using h
  rw[zjm hb (by decide) h]
  have h2:=h.app
  rw[zfR 200000 hb h2 (by decide) g5]
  have h3:At b (i+6+((flB fl).length+1)) (s2 true b2 b4 b16 uid sz body t):=by
   have:=At.app (s:=flB fl++[41]) (by simpa using h2)
   rw[List.length_append] at this
   simpa using this
  simp only[Option.bind_some,Bool.not_true,cond_false]
  rw[xL (by simp only[List.length_cons,List.length_nil];omega),cond_true,g3]
  simp only[Option.bind_some,Bool.not_true,cond_false]
  exact zyg hb p1 hl hz hs hu hz4 hz2 (by decide) (by rintro x (rfl|rfl)<;>decide) h3
end
end Go.Proofs.Model

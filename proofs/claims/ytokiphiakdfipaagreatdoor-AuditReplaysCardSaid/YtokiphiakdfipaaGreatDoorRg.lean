/- Both find the same responses valid. -/
import Derived.Test.YtokiphiakdfipaaGreatDoorRf
set_option linter.unusedVariables false
set_option linter.unusedSimpArgs false
set_option maxRecDepth 100000
namespace Go.Proofs.Model
open Go Go.Gx Go.Mx Go.Sx
theorem jY{a b:Int}(h:a=b):(a==b)=true:=by rw[beq_iff_eq];exact h
theorem qH{a b:Int}(h:¬ a=b):(a==b)=false:=by rw[beq_eq_false_iff_ne];exact h
theorem zhb{a b:Rsp}:zbk a b=zbk b a:=by rw[Bool.eq_iff_iff,jk,jk];exact eq_comm
theorem zqr(r:Rsp)(h:Small r):(Option.bind (jt 200000 r) fun y1=>(cond y1.2.1 (Option.bind (zP 200000 (r.1,y1.1.2) r) fun y2=>(some (y2.1,()))) (some (false,()))))=some (zbk (zjy r.1 r.2.1) r,()):=by
 unfold jt
 simp only[Option.bind_some,cond_true]
 rw[zcI _ _ (by simp) h.2.2];rfl
theorem zwl(r:Rsp)(h:Small r):(Option.bind (kI 200000 r) fun y1=>(cond y1.2.1 (Option.bind (zP 200000 (r.1,y1.1.2) r) fun y2=>(some (y2.1,()))) (some (false,()))))=some (zbk (zjy r.1 0) r,()):=by
 unfold kI
 simp only[Option.bind_some,cond_true]
 rw[zcI _ _ (by simp) h.2.2];rfl
theorem zm6(r:Rsp)(h:Small r):(Option.bind (jd 200000 r) fun y1=>(cond y1.2.1 (Option.bind (zP 200000 (r.1,y1.1.2) r) fun y2=>(some (y2.1,()))) (some (false,()))))=some (zaN r.2.2.2.2.1&&zbk (zma r.1 r.2.2.2.2.1) r,()):=by
 rw[zqh r h]
 simp only[Option.bind_some]
 rw[zcI _ _ (by simp [zma]) h.2.2]
 cases zaN r.2.2.2.2.1<;>rfl
theorem zwm(r:Rsp)(h:Small r)(hk:r.1=9):(Option.bind (j7 200000 r) fun y1=>(cond y1.2.1 (Option.bind (zP 200000 (r.1,y1.1.2) r) fun y2=>(some (y2.1,()))) (some (false,()))))=some (zoQ r.2.2.1&&(zaN r.2.2.2.2.1&&(decide (0<=r.2.2.2.1)&&(decide (r.2.2.2.1<=2)&&zbk (zsT r.2.2.1 r.2.2.2.2.1 r.2.2.2.1) r))),()):=by
 rw[zqe r h]
 simp only[Option.bind_some]
 rw[zcI _ _ (by simp [zsT]) h.2.2,hk]
 cases zoQ r.2.2.1 with
 |false=>rfl
 |true=>cases zaN r.2.2.2.2.1 with
  |false=>rfl
  |true=>cases decide (0<=r.2.2.2.1) with
   |false=>rfl
   |true=>cases decide (r.2.2.2.1<=2)<;>rfl
theorem zq8{it:Int}:(itB (bI it 1) (bI it 2) (bI it 4) (bI it 16) != 0&&(itB (bI it 1) (bI it 2) (bI it 4) (bI it 16)==it))=(decide (1<=it)&&(decide (it<=31)&&!bI it 8)):=by
 rw[Bool.eq_iff_iff]
 simp only[Bool.and_eq_true,bne_iff_ne,beq_iff_eq,decide_eq_true_eq,Bool.not_eq_true']
 constructor
 ·intro⟨h0,h1⟩
  obtain⟨_,_,_,_,e8⟩:=zed (bI it 1) (bI it 2) (bI it 4) (bI it 16)
  have hr:∀ b1 b2 b4 b16,itB b1 b2 b4 b16≠0->1<=itB b1 b2 b4 b16/\itB b1 b2 b4 b16<=31:=by
   intro b1 b2 b4 b16;cases b1<;>cases b2<;>cases b4<;>cases b16<;>decide
  have:=hr _ _ _ _ h0
  rw[h1] at this e8
  exact⟨this.1,this.2,e8⟩
 ·intro⟨h1,h2,h3⟩
  have:=zsl h1 h2 h3
  exact⟨by rw[<- this];omega,this.symm⟩
theorem zoq{a b c d e f x y:Bool}(h:(a&&b)=(c&&(d&&e))):(a&&(x&&y)&&(b&&f))=(c&&(d&&(e&&(x&&(y&&f))))):=by
 cases a<;>cases b<;>cases c<;>cases d<;>cases e<;>simp_all [Bool.and_assoc]
theorem zwk(r:Rsp)(h:Small r)(hk:r.1=4):(Option.bind (jN 200000 r) fun y1=>(cond y1.2.1 (Option.bind (zP 200000 (r.1,y1.1.2) r) fun y2=>(some (y2.1,()))) (some (false,())))) =
  some (decide (1<=r.2.2.2.2.2.1)&&(decide (r.2.2.2.2.2.1<=31)&&(!bI r.2.2.2.2.2.1 8&&(decide (r.2.2.2.2.2.2.1<=31)&&(decide ((r.2.2.2.2.2.2.2.2.2.length:Int)<=65536)&&zbk r (zlD r.2.1 r.2.2.2.2.2.1 r.2.2.2.2.2.2.1 r.2.2.2.2.2.2.2.1 r.2.2.2.2.2.2.2.2.1 r.2.2.2.2.2.2.2.2.2))))),()):=by
 obtain⟨k,n,g,s,t,it,fl,uid,sz,body⟩:=r
 rw[zoC]
 simp only[Option.bind_some]
 have hb:(cond (bI it 16) body []).length<=100000:=by
  have:=h.2.2
  cases bI it 16 with
  |true=>exact this
  |false=>simp
 rw[zcI _ _ (by simp only[zqQ];exact hb) h.2.2]
 rw[show ∀ (c x:Bool),(cond c (Option.bind (some (x,())) fun y2=>some (y2.1,())) (some (false,())))=some (c&&x,()) from fun c x=>by cases c<;>rfl]
 congr 2
 simp only at hk
 subst hk
 rw[zhb (a:=(4,n,g,s,t,it,fl,uid,sz,body))]
 have key:zbk (4,(zqQ n (itB (bI it 1) (bI it 2) (bI it 4) (bI it 16)) (cond (bI it 1) fl 0) (cond (bI it 2) uid 0) (cond (bI it 4) sz 0) (cond (bI it 16) body [])).2) (4,n,g,s,t,it,fl,uid,sz,body) =
   ((itB (bI it 1) (bI it 2) (bI it 4) (bI it 16)==it)&&zbk (zlD n it fl uid sz body) (4,n,g,s,t,it,fl,uid,sz,body)):=by
  unfold zbk zqQ zlD zqQ
  dsimp only
  rw[beq_self_eq_true,beq_self_eq_true,beq_self_eq_true]
  simp only[Bool.true_and]
  generalize(([]:List UInt8)==g)=x1
  generalize((0:Int)==s)=x2
  generalize(([]:List UInt8)==t)=x3
  cases x1<;>cases x2<;>cases x3<;>simp
 rw[key]
 exact zoq zq8
theorem znZ(r:Rsp)(h:Small r):∃ b,za0 200000 r=some (b,())/\(b=true↔VR r):=by
 unfold za0
 by_cases e1:r.1=1
 ·rw[jY e1,cond_true,zqr r h];exact⟨_,rfl,jk.trans (zis (.inl e1)).symm⟩
 by_cases e2:r.1=2
 ·rw[qH e1,cond_false,jY e2,cond_true,zqr r h];exact⟨_,rfl,jk.trans (zis (.inr (.inl e2))).symm⟩
 by_cases e3:r.1=3
 ·rw[qH e1,cond_false,qH e2,cond_false,jY e3,cond_true,zqr r h];exact⟨_,rfl,jk.trans (zis (.inr (.inr e3))).symm⟩
 rw[qH e1,cond_false,qH e2,cond_false,qH e3,cond_false]
 by_cases e4:r.1=4
 ·rw[jY e4,cond_true,zwk r h e4];exact⟨_,rfl,(zsV e4).symm⟩
 rw[qH e4,cond_false]
 by_cases e5:r.1=5
 ·rw[jY e5,cond_true,zwl r h];exact⟨_,rfl,jk.trans (zsW e5).symm⟩
 rw[qH e5,cond_false]
 by_cases e6:r.1=6
 ·rw[jY e6,cond_true,zm6 r h];exact⟨_,rfl,(zfV (.inl e6)).symm⟩
 rw[qH e6,cond_false]
 by_cases e7:r.1=7
 ·rw[jY e7,cond_true,zm6 r h];exact⟨_,rfl,(zfV (.inr (.inl e7))).symm⟩
 rw[qH e7,cond_false]
 by_cases e8:r.1=8
 ·rw[jY e8,cond_true,zm6 r h];exact⟨_,rfl,(zfV (.inr (.inr (.inl e8)))).symm⟩
 rw[qH e8,cond_false]
 by_cases e9:r.1=9
 ·rw[jY e9,cond_true,zwm r h e9];exact⟨_,rfl,(zsX e9).symm⟩
 rw[qH e9,cond_false]
 by_cases e10:r.1=10
 ·rw[jY e10,cond_true,zm6 r h];exact⟨_,rfl,(zfV (.inr (.inr (.inr e10)))).symm⟩
 rw[qH e10,cond_false]
 refine⟨false,rfl,⟨fun h=>(by cases h),fun h=>?_⟩⟩
 rcases zx1 h with(h|h|h)|h|h|(h|h|h|h)|h<;>first|exact absurd h e1|exact absurd h e2|exact absurd h e3|exact absurd h e4|exact absurd h e5|exact absurd h e6|exact absurd h e7|exact absurd h e8|exact absurd h e9|exact absurd h e10
theorem zqp(r:Rsp)(h:Small r):∃ b,wY 200000 r=some (b,())/\(b=true↔VR r):=by
 unfold wY F_ref09_Valid_a
 simp only[zmS,ztp _ h.2.1,zto _ h.1,Option.bind_some]
 by_cases e1:r.1=1
 ·simp only[jY e1,cond_true];exact⟨_,rfl,by rw[zhb];exact jk.trans (zis (.inl e1)).symm⟩
 by_cases e2:r.1=2
 ·simp only[qH e1,cond_false,jY e2,cond_true];exact⟨_,rfl,by rw[zhb];exact jk.trans (zis (.inr (.inl e2))).symm⟩
 by_cases e3:r.1=3
 ·simp only[qH e1,qH e2,cond_false,jY e3,cond_true];exact⟨_,rfl,by rw[zhb];exact jk.trans (zis (.inr (.inr e3))).symm⟩
 simp only[qH e1,qH e2,qH e3,cond_false]
 by_cases e4:r.1=4
 ·simp only[jY e4,cond_true]
  refine⟨_,?_,(zsV e4).symm⟩
  have e8:((zd .and .i64 r.2.2.2.2.2.1 (8:Int))==(0:Int))=!bI r.2.2.2.2.2.1 8:=by unfold bI;cases h:zd .and .i64 r.2.2.2.2.2.1 8==0<;>simp [bne,h]
  obtain⟨k,n,g,s,t,it,fl,uid,sz,body⟩:=r
  dsimp only at *
  subst e4
  rw[e8]
  unfold zlD zqQ
  rw[show ∀ x,(zd .and .i64 it x != 0)=bI it x from fun x=>rfl,show ∀ x,(zd .and .i64 it x != 0)=bI it x from fun x=>rfl,show ∀ x,(zd .and .i64 it x != 0)=bI it x from fun x=>rfl,show ∀ x,(zd .and .i64 it x != 0)=bI it x from fun x=>rfl]
  cases bI it 1<;>cases bI it 2<;>cases bI it 4<;>cases bI it 16<;>simp only[cond_true,cond_false]<;>(generalize decide (1<=it)=c1;generalize decide (it<=31)=c2;generalize(!bI it 8)=c3;generalize decide (fl<=31)=c4;generalize decide ((body.length:Int)<=65536)=c5;cases c1<;>cases c2<;>cases c3<;>cases c4<;>cases c5<;>rfl)
 simp only[qH e4,cond_false]
 by_cases e5:r.1=5
 ·simp only[jY e5,cond_true];exact⟨_,rfl,by rw[zhb];exact jk.trans (zsW e5).symm⟩
 simp only[qH e5,cond_false]
 have tx:∀ (b:Bool),b=(zaN r.2.2.2.2.1&&zbk (zma r.1 r.2.2.2.2.1) r)->(cond (zaN r.2.2.2.2.1) (some (zbk r (r.1,0,[],0,r.2.2.2.2.1,0,0,0,0,[]),())) (some (false,())):Option (Bool×Unit))=some (b,()):=fun b hb=>by
  rw[hb,zhb]
  cases zaN r.2.2.2.2.1<;>rfl
 by_cases e6:r.1=6
 ·simp only[jY e6,cond_true];exact⟨_,tx _ rfl,(zfV (.inl e6)).symm⟩
 by_cases e9:r.1=9
 ·have e7:¬ r.1=7:=fun h=>by rw[e9] at h;exact absurd h (by decide)
  have e8:¬ r.1=8:=fun h=>by rw[e9] at h;exact absurd h (by decide)
  have e10:¬ r.1=10:=fun h=>by rw[e9] at h;exact absurd h (by decide)
  simp only[qH e6,qH e7,qH e8,qH e10,jY e9,cond_true,cond_false]
  refine⟨_,?_,(zsX e9).symm⟩
  rw[zhb,e9]
  unfold zsT
  cases zoQ r.2.2.1 with
  |false=>rfl
  |true=>cases zaN r.2.2.2.2.1 with
   |false=>rfl
   |true=>cases decide (0<=r.2.2.2.1) with
    |false=>rfl
    |true=>cases decide (r.2.2.2.1<=2)<;>rfl
 simp only[qH e6,qH e9,cond_false]
 by_cases e7:r.1=7
 ·simp only[jY e7,cond_true];exact⟨_,tx _ rfl,(zfV (.inr (.inl e7))).symm⟩
 simp only[qH e7,cond_false]
 by_cases e8:r.1=8
 ·simp only[jY e8,cond_true];exact⟨_,tx _ rfl,(zfV (.inr (.inr (.inl e8)))).symm⟩
 simp only[qH e8,cond_false]
 by_cases e10:r.1=10
 ·simp only[jY e10,cond_true];exact⟨_,tx _ rfl,(zfV (.inr (.inr (.inr e10)))).symm⟩
 simp only[qH e10,cond_false]
 refine⟨false,rfl,⟨fun h=>(by cases h),fun h=>?_⟩⟩
 rcases zx1 h with(h|h|h)|h|h|(h|h|h|h)|h<;>first|exact absurd h e1|exact absurd h e2|exact absurd h e3|exact absurd h e4|exact absurd h e5|exact absurd h e6|exact absurd h e7|exact absurd h e8|exact absurd h e9|exact absurd h e10
end Go.Proofs.Model

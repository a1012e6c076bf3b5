/- Both find the same responses valid. -/
import Derived.Test.YtljnndccimlnlaaGreatDoorRf
set_option linter.unusedVariables false
set_option linter.unusedSimpArgs false
set_option maxRecDepth 100000
namespace Go.Proofs.Model
open Go Go.Gx Go.Mx Go.Sx
theorem zbw{a b:Int}(h:a=b):(a==b)=true:=by rw[beq_iff_eq];exact h
theorem xu{a b:Int}(h:¬ a=b):(a==b)=false:=by rw[beq_eq_false_iff_ne];exact h
theorem zhI{a b:Rsp}:zbW a b=zbW b a:=by rw[Bool.eq_iff_iff,ka,ka];exact eq_comm
theorem zqY(r:Rsp)(h:Small r):(Option.bind (jV 200000 r) fun y1=>(cond y1.2.1 (Option.bind (qk 200000 (r.1,y1.1.2) r) fun y2=>(some (y2.1,()))) (some (false,()))))=some (zbW (zj8 r.1 r.2.1) r,()):=by
 unfold jV
 simp only[Option.bind_some,cond_true]
 rw[zdk _ _ (by simp) h.2.2];rfl
theorem zxn(r:Rsp)(h:Small r):(Option.bind (kP 200000 r) fun y1=>(cond y1.2.1 (Option.bind (qk 200000 (r.1,y1.1.2) r) fun y2=>(some (y2.1,()))) (some (false,()))))=some (zbW (zj8 r.1 0) r,()):=by
 unfold kP
 simp only[Option.bind_some,cond_true]
 rw[zdk _ _ (by simp) h.2.2];rfl
theorem znG(r:Rsp)(h:Small r):(Option.bind (jO 200000 r) fun y1=>(cond y1.2.1 (Option.bind (qk 200000 (r.1,y1.1.2) r) fun y2=>(some (y2.1,()))) (some (false,()))))=some (zby r.2.2.2.2.1&&zbW (zmN r.1 r.2.2.2.2.1) r,()):=by
 rw[zqP r h]
 simp only[Option.bind_some]
 rw[zdk _ _ (by simp [zmN]) h.2.2]
 cases zby r.2.2.2.2.1<;>rfl
theorem zxo(r:Rsp)(h:Small r)(hk:r.1=9):(Option.bind (wB 200000 r) fun y1=>(cond y1.2.1 (Option.bind (qk 200000 (r.1,y1.1.2) r) fun y2=>(some (y2.1,()))) (some (false,()))))=some (zpn r.2.2.1&&(zby r.2.2.2.2.1&&(decide (0<=r.2.2.2.1)&&(decide (r.2.2.2.1<=2)&&zbW (ztS r.2.2.1 r.2.2.2.2.1 r.2.2.2.1) r))),()):=by
 rw[zqM r h]
 simp only[Option.bind_some]
 rw[zdk _ _ (by simp [ztS]) h.2.2,hk]
 cases zpn r.2.2.1 with
 |false=>rfl
 |true=>cases zby r.2.2.2.2.1 with
  |false=>rfl
  |true=>cases decide (0<=r.2.2.2.1) with
   |false=>rfl
   |true=>cases decide (r.2.2.2.1<=2)<;>rfl
theorem zrx{it:Int}:(itB (bI it 1) (bI it 2) (bI it 4) (bI it 16) != 0&&(itB (bI it 1) (bI it 2) (bI it 4) (bI it 16)==it))=(decide (1<=it)&&(decide (it<=31)&&!bI it 8)):=by
 rw[Bool.eq_iff_iff]
 simp only[Bool.and_eq_true,bne_iff_ne,beq_iff_eq,decide_eq_true_eq,Bool.not_eq_true']
 constructor
 ·intro⟨h0,h1⟩
  obtain⟨_,_,_,_,e8⟩:=zeC (bI it 1) (bI it 2) (bI it 4) (bI it 16)
  have hr:∀ b1 b2 b4 b16,itB b1 b2 b4 b16≠0->1<=itB b1 b2 b4 b16/\itB b1 b2 b4 b16<=31:=by
   intro b1 b2 b4 b16;cases b1<;>cases b2<;>cases b4<;>cases b16<;>decide
  have:=hr _ _ _ _ h0
  rw[h1] at this e8
  exact⟨this.1,this.2,e8⟩
 ·intro⟨h1,h2,h3⟩
  have:=ztk h1 h2 h3
  exact⟨by rw[<- this];omega,this.symm⟩
theorem zoV{a b c d e f x y:Bool}(h:(a&&b)=(c&&(d&&e))):(a&&(x&&y)&&(b&&f))=(c&&(d&&(e&&(x&&(y&&f))))):=by
 cases a<;>cases b<;>cases c<;>cases d<;>cases e<;>simp_all [Bool.and_assoc]
theorem zxm(r:Rsp)(h:Small r)(hk:r.1=4):(Option.bind (j0 200000 r) fun y1=>(cond y1.2.1 (Option.bind (qk 200000 (r.1,y1.1.2) r) fun y2=>(some (y2.1,()))) (some (false,())))) =
  some (decide (1<=r.2.2.2.2.2.1)&&(decide (r.2.2.2.2.2.1<=31)&&(!bI r.2.2.2.2.2.1 8&&(decide (r.2.2.2.2.2.2.1<=31)&&(decide ((r.2.2.2.2.2.2.2.2.2.length:Int)<=65536)&&zbW r (zmg r.2.1 r.2.2.2.2.2.1 r.2.2.2.2.2.2.1 r.2.2.2.2.2.2.2.1 r.2.2.2.2.2.2.2.2.1 r.2.2.2.2.2.2.2.2.2))))),()):=by
 obtain⟨k,n,g,s,t,it,fl,uid,sz,body⟩:=r
 rw[zo7]
 simp only[Option.bind_some]
 have hb:(cond (bI it 16) body []).length<=100000:=by
  have:=h.2.2
  cases bI it 16 with
  |true=>exact this
  |false=>simp
 rw[zdk _ _ (by simp only[zrj];exact hb) h.2.2]
 rw[show ∀ (c x:Bool),(cond c (Option.bind (some (x,())) fun y2=>some (y2.1,())) (some (false,())))=some (c&&x,()) from fun c x=>by cases c<;>rfl]
 congr 2
 simp only at hk
 subst hk
 rw[zhI (a:=(4,n,g,s,t,it,fl,uid,sz,body))]
 have key:zbW (4,(zrj n (itB (bI it 1) (bI it 2) (bI it 4) (bI it 16)) (cond (bI it 1) fl 0) (cond (bI it 2) uid 0) (cond (bI it 4) sz 0) (cond (bI it 16) body [])).2) (4,n,g,s,t,it,fl,uid,sz,body) =
   ((itB (bI it 1) (bI it 2) (bI it 4) (bI it 16)==it)&&zbW (zmg n it fl uid sz body) (4,n,g,s,t,it,fl,uid,sz,body)):=by
  unfold zbW zrj zmg zrj
  dsimp only
  rw[beq_self_eq_true,beq_self_eq_true,beq_self_eq_true]
  simp only[Bool.true_and]
  generalize(([]:List UInt8)==g)=x1
  generalize((0:Int)==s)=x2
  generalize(([]:List UInt8)==t)=x3
  cases x1<;>cases x2<;>cases x3<;>simp
 rw[key]
 exact zoV zrx
theorem zoy(r:Rsp)(h:Small r):∃ b,xP 200000 r=some (b,())/\(b=true↔VR r):=by
 unfold xP
 by_cases e1:r.1=1
 ·rw[zbw e1,cond_true,zqY r h];exact⟨_,rfl,ka.trans (zi2 (.inl e1)).symm⟩
 by_cases e2:r.1=2
 ·rw[xu e1,cond_false,zbw e2,cond_true,zqY r h];exact⟨_,rfl,ka.trans (zi2 (.inr (.inl e2))).symm⟩
 by_cases e3:r.1=3
 ·rw[xu e1,cond_false,xu e2,cond_false,zbw e3,cond_true,zqY r h];exact⟨_,rfl,ka.trans (zi2 (.inr (.inr e3))).symm⟩
 rw[xu e1,cond_false,xu e2,cond_false,xu e3,cond_false]
 by_cases e4:r.1=4
 ·rw[zbw e4,cond_true,zxm r h e4];exact⟨_,rfl,(ztU e4).symm⟩
 rw[xu e4,cond_false]
 by_cases e5:r.1=5
 ·rw[zbw e5,cond_true,zxn r h];exact⟨_,rfl,ka.trans (ztV e5).symm⟩
 rw[xu e5,cond_false]
 by_cases e6:r.1=6
 ·rw[zbw e6,cond_true,znG r h];exact⟨_,rfl,(zgn (.inl e6)).symm⟩
 rw[xu e6,cond_false]
 by_cases e7:r.1=7
 ·rw[zbw e7,cond_true,znG r h];exact⟨_,rfl,(zgn (.inr (.inl e7))).symm⟩
 rw[xu e7,cond_false]
 by_cases e8:r.1=8
 ·rw[zbw e8,cond_true,znG r h];exact⟨_,rfl,(zgn (.inr (.inr (.inl e8)))).symm⟩
 rw[xu e8,cond_false]
 by_cases e9:r.1=9
 ·rw[zbw e9,cond_true,zxo r h e9];exact⟨_,rfl,(ztW e9).symm⟩
 rw[xu e9,cond_false]
 by_cases e10:r.1=10
 ·rw[zbw e10,cond_true,znG r h];exact⟨_,rfl,(zgn (.inr (.inr (.inr e10)))).symm⟩
 rw[xu e10,cond_false]
 refine⟨false,rfl,⟨fun h=>(by cases h),fun h=>?_⟩⟩
 rcases zym h with(h|h|h)|h|h|(h|h|h|h)|h<;>first|exact absurd h e1|exact absurd h e2|exact absurd h e3|exact absurd h e4|exact absurd h e5|exact absurd h e6|exact absurd h e7|exact absurd h e8|exact absurd h e9|exact absurd h e10
theorem zlD(r:Rsp)(h:Small r):∃ b,j7 200000 r=some (b,())/\(b=true↔VR r):=by
 unfold j7
 simp only[znu,zum _ h.2.1,zul _ h.1,Option.bind_some]
 by_cases e1:r.1=1
 ·simp only[zbw e1,cond_true];exact⟨_,rfl,by rw[zhI];exact ka.trans (zi2 (.inl e1)).symm⟩
 by_cases e2:r.1=2
 ·simp only[xu e1,cond_false,zbw e2,cond_true];exact⟨_,rfl,by rw[zhI];exact ka.trans (zi2 (.inr (.inl e2))).symm⟩
 by_cases e3:r.1=3
 ·simp only[xu e1,xu e2,cond_false,zbw e3,cond_true];exact⟨_,rfl,by rw[zhI];exact ka.trans (zi2 (.inr (.inr e3))).symm⟩
 simp only[xu e1,xu e2,xu e3,cond_false]
 by_cases e4:r.1=4
 ·simp only[zbw e4,cond_true]
  refine⟨_,?_,(ztU e4).symm⟩
  have e8:((zd .and .i64 r.2.2.2.2.2.1 (8:Int))==(0:Int))=!bI r.2.2.2.2.2.1 8:=by unfold bI;cases h:zd .and .i64 r.2.2.2.2.2.1 8==0<;>simp [bne,h]
  obtain⟨k,n,g,s,t,it,fl,uid,sz,body⟩:=r
  dsimp only at *
  subst e4
  rw[e8]
  unfold zmg zrj
  rw[show ∀ x,(zd .and .i64 it x != 0)=bI it x from fun x=>rfl,show ∀ x,(zd .and .i64 it x != 0)=bI it x from fun x=>rfl,show ∀ x,(zd .and .i64 it x != 0)=bI it x from fun x=>rfl,show ∀ x,(zd .and .i64 it x != 0)=bI it x from fun x=>rfl]
  cases bI it 1<;>cases bI it 2<;>cases bI it 4<;>cases bI it 16<;>simp only[cond_true,cond_false]<;>(generalize decide (1<=it)=c1;generalize decide (it<=31)=c2;generalize(!bI it 8)=c3;generalize decide (fl<=31)=c4;generalize decide ((body.length:Int)<=65536)=c5;cases c1<;>cases c2<;>cases c3<;>cases c4<;>cases c5<;>rfl)
 simp only[xu e4,cond_false]
 by_cases e5:r.1=5
 ·simp only[zbw e5,cond_true];exact⟨_,rfl,by rw[zhI];exact ka.trans (ztV e5).symm⟩
 simp only[xu e5,cond_false]
 have tx:∀ (b:Bool),b=(zby r.2.2.2.2.1&&zbW (zmN r.1 r.2.2.2.2.1) r)->(cond (zby r.2.2.2.2.1) (some (zbW r (r.1,0,[],0,r.2.2.2.2.1,0,0,0,0,[]),())) (some (false,())):Option (Bool×Unit))=some (b,()):=fun b hb=>by
  rw[hb,zhI]
  cases zby r.2.2.2.2.1<;>rfl
 by_cases e6:r.1=6
 ·simp only[zbw e6,cond_true];exact⟨_,tx _ rfl,(zgn (.inl e6)).symm⟩
 by_cases e9:r.1=9
 ·have e7:¬ r.1=7:=fun h=>by rw[e9] at h;exact absurd h (by decide)
  have e8:¬ r.1=8:=fun h=>by rw[e9] at h;exact absurd h (by decide)
  have e10:¬ r.1=10:=fun h=>by rw[e9] at h;exact absurd h (by decide)
  simp only[xu e6,xu e7,xu e8,xu e10,zbw e9,cond_true,cond_false]
  refine⟨_,?_,(ztW e9).symm⟩
  rw[zhI,e9]
  unfold ztS
  cases zpn r.2.2.1 with
  |false=>rfl
  |true=>cases zby r.2.2.2.2.1 with
   |false=>rfl
   |true=>cases decide (0<=r.2.2.2.1) with
    |false=>rfl
    |true=>cases decide (r.2.2.2.1<=2)<;>rfl
 simp only[xu e6,xu e9,cond_false]
 by_cases e7:r.1=7
 ·simp only[zbw e7,cond_true];exact⟨_,tx _ rfl,(zgn (.inr (.inl e7))).symm⟩
 simp only[xu e7,cond_false]
 by_cases e8:r.1=8
 ·simp only[zbw e8,cond_true];exact⟨_,tx _ rfl,(zgn (.inr (.inr (.inl e8)))).symm⟩
 simp only[xu e8,cond_false]
 by_cases e10:r.1=10
 ·simp only[zbw e10,cond_true];exact⟨_,tx _ rfl,(zgn (.inr (.inr (.inr e10)))).symm⟩
 simp only[xu e10,cond_false]
 refine⟨false,rfl,⟨fun h=>(by cases h),fun h=>?_⟩⟩
 rcases zym h with(h|h|h)|h|h|(h|h|h|h)|h<;>first|exact absurd h e1|exact absurd h e2|exact absurd h e3|exact absurd h e4|exact absurd h e5|exact absurd h e6|exact absurd h e7|exact absurd h e8|exact absurd h e9|exact absurd h e10
end Go.Proofs.Model

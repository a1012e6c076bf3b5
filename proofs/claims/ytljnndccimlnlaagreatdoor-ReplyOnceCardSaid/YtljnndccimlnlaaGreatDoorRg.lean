/- Both find the same responses valid. -/
import Derived.Test.YtljnndccimlnlaaGreatDoorRf
set_option linter.unusedVariables false
set_option linter.unusedSimpArgs false
set_option maxRecDepth 100000
namespace Go.Proofs.Model
open Go Go.Gx Go.Mx Go.Sx
theorem zar {a b:Int} (h:a=b):(a == b)=true:=by rw [beq_iff_eq];exact h
theorem j5 {a b:Int} (h:¬ a=b):(a == b)=false:=by rw [beq_eq_false_iff_ne];exact h
theorem zfN {a b:Rsp}:zad a b=zad b a:=by rw [Bool.eq_iff_iff,qJ,qJ];exact eq_comm
theorem zl2 (r:Rsp) (h:Small r):(Option.bind (qH 200000 r) fun y1=>(cond y1.2.1 (Option.bind (zH 200000 (r.1,y1.1.2) r) fun y2=>(some (y2.1,()))) (some (false,()))))=some (zad (zoq r.1 r.2.1) r,()):=by
 unfold qH
 simp only [Option.bind_some,cond_true]
 rw [zbb _ _ (by simp) h.2.2];rfl
theorem zti (r:Rsp) (h:Small r):(Option.bind (wM 200000 r) fun y1=>(cond y1.2.1 (Option.bind (zH 200000 (r.1,y1.1.2) r) fun y2=>(some (y2.1,()))) (some (false,()))))=some (zad (zoq r.1 0) r,()):=by
 unfold wM
 simp only [Option.bind_some,cond_true]
 rw [zbb _ _ (by simp) h.2.2];rfl
theorem zkA (r:Rsp) (h:Small r):(Option.bind (qw 200000 r) fun y1=>(cond y1.2.1 (Option.bind (zH 200000 (r.1,y1.1.2) r) fun y2=>(some (y2.1,()))) (some (false,()))))=some (za1 r.2.2.2.2.1 && zad (zpx r.1 r.2.2.2.2.1) r,()):=by
 rw [znC r h]
 simp only [Option.bind_some]
 rw [zbb _ _ (by simp [zpx]) h.2.2]
 cases za1 r.2.2.2.2.1 <;> rfl
theorem zs8 (r:Rsp) (h:Small r) (hk:r.1=9):(Option.bind (jq 200000 r) fun y1=>(cond y1.2.1 (Option.bind (zH 200000 (r.1,y1.1.2) r) fun y2=>(some (y2.1,()))) (some (false,()))))=some (zpi r.2.2.1 && (za1 r.2.2.2.2.1 && (decide (0 <= r.2.2.2.1) && (decide (r.2.2.2.1 <= 2) && zad (zq6 r.2.2.1 r.2.2.2.2.1 r.2.2.2.1) r))),()):=by
 rw [znc r h]
 simp only [Option.bind_some]
 rw [zbb _ _ (by simp [zq6]) h.2.2,hk]
 cases zpi r.2.2.1 with
 | false=>rfl
 | true=>cases za1 r.2.2.2.2.1 with
  | false=>rfl
  | true=>cases decide (0 <= r.2.2.2.1) with
   | false=>rfl
   | true=>cases decide (r.2.2.2.1 <= 2) <;> rfl
theorem zoE {it:Int}:(itB (bI it 1) (bI it 2) (bI it 4) (bI it 16) != 0 && (itB (bI it 1) (bI it 2) (bI it 4) (bI it 16) == it))=(decide (1 <= it) && (decide (it <= 31) && !bI it 8)):=by
 rw [Bool.eq_iff_iff]
 simp only [Bool.and_eq_true,bne_iff_ne,beq_iff_eq,decide_eq_true_eq,Bool.not_eq_true']
 constructor
 ·intro ⟨h0,h1⟩
  obtain ⟨_,_,_,_,e8⟩:=zko (bI it 1) (bI it 2) (bI it 4) (bI it 16)
  have hr:∀ b1 b2 b4 b16,itB b1 b2 b4 b16 ≠ 0 -> 1 <= itB b1 b2 b4 b16 /\ itB b1 b2 b4 b16 <= 31:=by
   intro b1 b2 b4 b16;cases b1 <;> cases b2 <;> cases b4 <;> cases b16 <;> decide
  have:=hr _ _ _ _ h0
  rw [h1] at this e8
  exact ⟨this.1,this.2,e8⟩
 ·intro ⟨h1,h2,h3⟩
  have:=zpN h1 h2 h3
  exact ⟨by rw [<- this];omega,this.symm⟩
theorem zm7 {a b c d e f x y:Bool} (h:(a && b)=(c && (d && e))):(a && (x && y) && (b && f))=(c && (d && (e && (x && (y && f))))):=by
 cases a <;> cases b <;> cases c <;> cases d <;> cases e <;> simp_all [Bool.and_assoc]
theorem zs7 (r:Rsp) (h:Small r) (hk:r.1=4):(Option.bind (qW 200000 r) fun y1=>(cond y1.2.1 (Option.bind (zH 200000 (r.1,y1.1.2) r) fun y2=>(some (y2.1,()))) (some (false,())))) =
  some (decide (1 <= r.2.2.2.2.2.1) && (decide (r.2.2.2.2.2.1 <= 31) && (!bI r.2.2.2.2.2.1 8 && (decide (r.2.2.2.2.2.2.1 <= 31) && (decide ((r.2.2.2.2.2.2.2.2.2.length:Int) <= 65536) && zad r (zjT r.2.1 r.2.2.2.2.2.1 r.2.2.2.2.2.2.1 r.2.2.2.2.2.2.2.1 r.2.2.2.2.2.2.2.2.1 r.2.2.2.2.2.2.2.2.2))))),()):=by
 obtain ⟨k,n,g,s,t,it,fl,uid,sz,body⟩:=r
 rw [zmb]
 simp only [Option.bind_some]
 have hb:(cond (bI it 16) body []).length <= 100000:=by
  have:=h.2.2
  cases bI it 16 with
  | true=>exact this
  | false=>simp
 rw [zbb _ _ (by simp only [zof];exact hb) h.2.2]
 rw [show ∀ (c x:Bool),(cond c (Option.bind (some (x,())) fun y2=>some (y2.1,())) (some (false,())))=some (c && x,()) from fun c x=>by cases c <;> rfl]
 congr 2
 simp only at hk
 subst hk
 rw [zfN (a:=(4,n,g,s,t,it,fl,uid,sz,body))]
 have key:zad (4,(zof n (itB (bI it 1) (bI it 2) (bI it 4) (bI it 16)) (cond (bI it 1) fl 0) (cond (bI it 2) uid 0) (cond (bI it 4) sz 0) (cond (bI it 16) body [])).2) (4,n,g,s,t,it,fl,uid,sz,body) =
   ((itB (bI it 1) (bI it 2) (bI it 4) (bI it 16) == it) && zad (zjT n it fl uid sz body) (4,n,g,s,t,it,fl,uid,sz,body)):=by
  unfold zad zof zjT zof
  dsimp only
  rw [beq_self_eq_true,beq_self_eq_true,beq_self_eq_true]
  simp only [Bool.true_and]
  generalize (([]:List UInt8) == g)=x1
  generalize ((0:Int) == s)=x2
  generalize (([]:List UInt8) == t)=x3
  cases x1 <;> cases x2 <;> cases x3 <;> simp
 rw [key]
 exact zm7 zoE
theorem zk4 (r:Rsp) (h:Small r):∃ b,xC 200000 r=some (b,()) /\ (b=true ↔ VR r):=by
 unfold xC
 by_cases e1:r.1=1
 ·rw [zar e1,cond_true,zl2 r h];exact ⟨_,rfl,qJ.trans (zgR (.inl e1)).symm⟩
 by_cases e2:r.1=2
 ·rw [j5 e1,cond_false,zar e2,cond_true,zl2 r h];exact ⟨_,rfl,qJ.trans (zgR (.inr (.inl e2))).symm⟩
 by_cases e3:r.1=3
 ·rw [j5 e1,cond_false,j5 e2,cond_false,zar e3,cond_true,zl2 r h];exact ⟨_,rfl,qJ.trans (zgR (.inr (.inr e3))).symm⟩
 rw [j5 e1,cond_false,j5 e2,cond_false,j5 e3,cond_false]
 by_cases e4:r.1=4
 ·rw [zar e4,cond_true,zs7 r h e4];exact ⟨_,rfl,(zqb e4).symm⟩
 rw [j5 e4,cond_false]
 by_cases e5:r.1=5
 ·rw [zar e5,cond_true,zti r h];exact ⟨_,rfl,qJ.trans (zqn e5).symm⟩
 rw [j5 e5,cond_false]
 by_cases e6:r.1=6
 ·rw [zar e6,cond_true,zkA r h];exact ⟨_,rfl,(zea (.inl e6)).symm⟩
 rw [j5 e6,cond_false]
 by_cases e7:r.1=7
 ·rw [zar e7,cond_true,zkA r h];exact ⟨_,rfl,(zea (.inr (.inl e7))).symm⟩
 rw [j5 e7,cond_false]
 by_cases e8:r.1=8
 ·rw [zar e8,cond_true,zkA r h];exact ⟨_,rfl,(zea (.inr (.inr (.inl e8)))).symm⟩
 rw [j5 e8,cond_false]
 by_cases e9:r.1=9
 ·rw [zar e9,cond_true,zs8 r h e9];exact ⟨_,rfl,(zpA e9).symm⟩
 rw [j5 e9,cond_false]
 by_cases e10:r.1=10
 ·rw [zar e10,cond_true,zkA r h];exact ⟨_,rfl,(zea (.inr (.inr (.inr e10)))).symm⟩
 rw [j5 e10,cond_false]
 refine ⟨false,rfl,⟨fun h=>(by cases h),fun h=>?_⟩⟩
 rcases zus h with (h | h | h) | h | h | (h | h | h | h) | h <;> first | exact absurd h e1 | exact absurd h e2 | exact absurd h e3 | exact absurd h e4 | exact absurd h e5 | exact absurd h e6 | exact absurd h e7 | exact absurd h e8 | exact absurd h e9 | exact absurd h e10
theorem zlT (r:Rsp) (h:Small r):∃ b,wo 200000 r=some (b,()) /\ (b=true ↔ VR r):=by
 unfold wo
 simp only [zoB,zqu _ h.2.1,zqT _ h.1,Option.bind_some]
 by_cases e1:r.1=1
 ·simp only [zar e1,cond_true];exact ⟨_,rfl,by rw [zfN];exact qJ.trans (zgR (.inl e1)).symm⟩
 by_cases e2:r.1=2
 ·simp only [j5 e1,cond_false,zar e2,cond_true];exact ⟨_,rfl,by rw [zfN];exact qJ.trans (zgR (.inr (.inl e2))).symm⟩
 by_cases e3:r.1=3
 ·simp only [j5 e1,j5 e2,cond_false,zar e3,cond_true];exact ⟨_,rfl,by rw [zfN];exact qJ.trans (zgR (.inr (.inr e3))).symm⟩
 simp only [j5 e1,j5 e2,j5 e3,cond_false]
 by_cases e4:r.1=4
 ·simp only [zar e4,cond_true]
  refine ⟨_,?_,(zqb e4).symm⟩
  have e8:((zd .and .i64 r.2.2.2.2.2.1 (8:Int)) == (0:Int))=!bI r.2.2.2.2.2.1 8:=by unfold bI;cases h:zd .and .i64 r.2.2.2.2.2.1 8 == 0 <;> simp [bne,h]
  obtain ⟨k,n,g,s,t,it,fl,uid,sz,body⟩:=r
  dsimp only at *
  subst e4
  rw [e8]
  unfold zjT zof
  rw [show ∀ x,(zd .and .i64 it x != 0)=bI it x from fun x=>rfl,show ∀ x,(zd .and .i64 it x != 0)=bI it x from fun x=>rfl,show ∀ x,(zd .and .i64 it x != 0)=bI it x from fun x=>rfl,show ∀ x,(zd .and .i64 it x != 0)=bI it x from fun x=>rfl]
  cases bI it 1 <;> cases bI it 2 <;> cases bI it 4 <;> cases bI it 16 <;> simp only [cond_true,cond_false] <;> (generalize decide (1 <= it)=c1;generalize decide (it <= 31)=c2;generalize (!bI it 8)=c3;generalize decide (fl <= 31)=c4;generalize decide ((body.length:Int) <= 65536)=c5;cases c1 <;> cases c2 <;> cases c3 <;> cases c4 <;> cases c5 <;> rfl)
 simp only [j5 e4,cond_false]
 by_cases e5:r.1=5
 ·simp only [zar e5,cond_true];exact ⟨_,rfl,by rw [zfN];exact qJ.trans (zqn e5).symm⟩
 simp only [j5 e5,cond_false]
 have tx:∀ (b:Bool),b=(za1 r.2.2.2.2.1 && zad (zpx r.1 r.2.2.2.2.1) r) -> (cond (za1 r.2.2.2.2.1) (some (zad r (r.1,0,[],0,r.2.2.2.2.1,0,0,0,0,[]),())) (some (false,())):Option (Bool × Unit))=some (b,()):=fun b hb=>by
  rw [hb,zfN]
  cases za1 r.2.2.2.2.1 <;> rfl
 by_cases e6:r.1=6
 ·simp only [zar e6,cond_true];exact ⟨_,tx _ rfl,(zea (.inl e6)).symm⟩
 by_cases e9:r.1=9
 ·have e7:¬ r.1=7:=fun h=>by rw [e9] at h;exact absurd h (by decide)
  have e8:¬ r.1=8:=fun h=>by rw [e9] at h;exact absurd h (by decide)
  have e10:¬ r.1=10:=fun h=>by rw [e9] at h;exact absurd h (by decide)
  simp only [j5 e6,j5 e7,j5 e8,j5 e10,zar e9,cond_true,cond_false]
  refine ⟨_,?_,(zpA e9).symm⟩
  rw [zfN,e9]
  unfold zq6
  cases zpi r.2.2.1 with
  | false=>rfl
  | true=>cases za1 r.2.2.2.2.1 with
   | false=>rfl
   | true=>cases decide (0 <= r.2.2.2.1) with
    | false=>rfl
    | true=>cases decide (r.2.2.2.1 <= 2) <;> rfl
 simp only [j5 e6,j5 e9,cond_false]
 by_cases e7:r.1=7
 ·simp only [zar e7,cond_true];exact ⟨_,tx _ rfl,(zea (.inr (.inl e7))).symm⟩
 simp only [j5 e7,cond_false]
 by_cases e8:r.1=8
 ·simp only [zar e8,cond_true];exact ⟨_,tx _ rfl,(zea (.inr (.inr (.inl e8)))).symm⟩
 simp only [j5 e8,cond_false]
 by_cases e10:r.1=10
 ·simp only [zar e10,cond_true];exact ⟨_,tx _ rfl,(zea (.inr (.inr (.inr e10)))).symm⟩
 simp only [j5 e10,cond_false]
 refine ⟨false,rfl,⟨fun h=>(by cases h),fun h=>?_⟩⟩
 rcases zus h with (h | h | h) | h | h | (h | h | h | h) | h <;> first | exact absurd h e1 | exact absurd h e2 | exact absurd h e3 | exact absurd h e4 | exact absurd h e5 | exact absurd h e6 | exact absurd h e7 | exact absurd h e8 | exact absurd h e9 | exact absurd h e10
end Go.Proofs.Model

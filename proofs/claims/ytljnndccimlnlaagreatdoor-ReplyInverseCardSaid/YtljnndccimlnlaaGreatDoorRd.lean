/- Lists of flags. -/
import Derived.Test.YtljnndccimlnlaaGreatDoorRc
set_option linter.unusedVariables false
set_option linter.unusedSimpArgs false
set_option maxRecDepth 100000
namespace Go.Proofs.Model
open Go Go.Gx Go.Mx Go.Sx
def sOf(o:Option (List UInt8×Unit)):List UInt8:=match o with
 |some (x,_)=>x
 |none=>[]
def isS(o:Option (List UInt8×Unit))(l:List UInt8):Bool:=match o with
 |some (x,_)=>x==l
 |none=>false
theorem ztj{o:Option (List UInt8×Unit)}{l:List UInt8}(h:isS o l=true):o=some (l,()):=by
 unfold isS at h
 split at h
 ·rw[eq_of_beq h]
 ·cases h
def isF(o:Option (UInt8×Bool×Unit))(f:UInt8):Bool:=match o with
 |some (x,b,_)=>x==f&&b
 |none=>false
theorem zwd{o:Option (UInt8×Bool×Unit)}{f:UInt8}(h:isF o f=true):o=some (f,true,()):=by
 unfold isF at h
 split at h
 ·simp only[Bool.and_eq_true] at h;obtain⟨h1,h2⟩:=h;rw[eq_of_beq h1,h2]
 ·cases h
def isI(o:Option (Int×Unit))(f:Int):Bool:=match o with
 |some (x,_)=>x==f
 |none=>false
theorem zwe{o:Option (Int×Unit)}{f:Int}(h:isI o f=true):o=some (f,()):=by
 unfold isI at h
 split at h
 ·rw[eq_of_beq h]
 ·cases h
def flB(f:UInt8):List UInt8:=(sOf (kz 200 f.toNat)).dropLast
def zue(f:UInt8):Bool:=decide (31<f)||(isS (xJ 200000 f) (flB f++[41])&&(isS (kz 200000 f.toNat) (flB f++[41])&&(isF (wK 200000 (flB f++[41])) f&&(isI (wR 200000 (flB f++[41])) f.toNat&&((flB f).all (fun c=>c != 41)&&Nat.ble (flB f).length 60)))))
theorem zv5(f:UInt8):zue f=true:=zfV (p:=zue) (by kernel_rfl) f
end Go.Proofs.Model

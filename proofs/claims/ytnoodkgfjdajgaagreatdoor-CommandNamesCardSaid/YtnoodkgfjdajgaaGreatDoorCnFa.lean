/- The functions of the law: their models, and that the program does what they say. -/
import Derived.Test.YtnoodkgfjdajgaaGreatDoorCnHp
set_option linter.unusedVariables false
set_option linter.unusedSimpArgs false
set_option maxRecDepth 100000
namespace Go.Proofs.YtnoodkgfjdajgaaGreatDoor
open Go Go.Gx Go.Mx Go.Sx
def hkA : Hooks := addHook (mext tab) 12 yesG
theorem hkok : HkOK Tryz.prog hkA [12] := hkok_add (hkok_ext (by kernel_rfl)) 12 yesG
-- slices.Index[[]string,string]
def F_slices_Index_string_string_l8_t (N : Nat) {R : Type} (x4 : List (List UInt8)) (x5 : List UInt8) (x6 : Int) (x7 : Int) (rec_ : (List (List UInt8)) → (List UInt8) → (Int) → (Int) → Option R) (o0 : (Int) → Option R) (o1 : Unit → Option R) : Option R :=
  (cond (decide (x7 < x6)) (cond (inb x7 (List.length x4)) (cond (x5 == (nth .str x4 (Int.toNat x7))) (o0 x7) (rec_ x4 x5 x6 (IntKind.wrap .i64 (x7 + (1 : Int))))) none) (o1 ()))
def F_slices_Index_string_string_l8 (N : Nat) : Nat → (List (List UInt8)) → (List UInt8) → (Int) → (Int) → Option (((Int)) ⊕ (Unit))
  | 0, _, _, _, _ => none
  | m + 1, x4, x5, x6, x7 => F_slices_Index_string_string_l8_t N x4 x5 x6 x7 (F_slices_Index_string_string_l8 N m) (fun v0 => some (Sum.inl v0)) (fun _ => some (Sum.inr ()))
def F_slices_Index_string_string_l8_O (o : ((Int)) ⊕ (Unit)) : Nat × List Lf := sumCase o (fun a => (0, [.i a])) (fun b0 => (1, []))
def F_slices_Index_string_string_l8_S (N : Nat) : LS := fun R ls κ => match ls with | [w0, w1, w2, w3] => (Option.bind (getL .str w0) fun x4 => Option.bind (getS w1) fun x5 => Option.bind (getI w2) fun x6 => Option.bind (getI w3) fun x7 => Option.bind (F_slices_Index_string_string_l8 N N x4 x5 x6 x7) (fun o => (sumCase o (fun a9 => κ 0 [.i a9]) (fun b10 => κ 1 [])))) | _ => none
def F_slices_Index_string_string_l8_p : PS := ⟨[(.isl .str), .str, .drop, .drop, .drop, .drop, .drop, (.int .i64), (.int .i64), .drop, .drop, .drop, .drop, .drop, .drop, .drop, .drop, .drop, .drop], []⟩
def F_slices_Index_string_string_l8_o : List (SX × PS) := [(.ret, ⟨[.drop, .drop, .drop, .drop, (.int .i64), .drop, .drop, .drop, .drop, .drop, .drop, .drop, .drop, .drop, .drop, .drop, .drop, .drop, .drop], []⟩), (.exit 0, ⟨[.drop, .drop, .drop, .drop, .drop, .drop, .drop, .drop, .drop, .drop, .drop, .drop, .drop, .drop, .drop, .drop, .drop, .drop, .drop], []⟩)]
def F_slices_Index_string_string (N : Nat) (p0 : (List (List UInt8))) (p1 : (List UInt8)) : Option (Int × Unit) :=
  (Option.bind (F_slices_Index_string_string_l8 N N p0 p1 (((List.length p0) : Nat) : Int) (0 : Int)) fun o11 => (sumCase o11 (fun a12 => (some (a12, ()))) (fun b13 => (some ((-1 : Int), ())))))
def F_slices_Index_string_string_ct (N : Nat) : List (FuncId × CF) := [(12, conF [] [.bool] fun _ => some (true, ()))]
theorem F_slices_Index_string_string_ok (N : Nat) : CtOK Tryz.prog glA (tabC (F_slices_Index_string_string_ct N)) hkA := ctok hkok rfl ⟨yes_sound rfl, trivial⟩
def F_slices_Index_string_string_l8_q (N : Nat) : Pl := .auto
theorem F_slices_Index_string_string_l8_r (N : Nat) {R : Type} (x4 : List (List UInt8)) (x5 : List UInt8) (x6 : Int) (x7 : Int) (rec_ : List Lf → Option R) (out : Nat → List Lf → Option R) :
    round Tryz.prog glA (tabC (F_slices_Index_string_string_ct N)) 1500 (F_slices_Index_string_string_l8_q N) F_slices_Index_string_string_l8_p F_slices_Index_string_string_l8_o (roundOf Tryz.f38 [1, 0, 1, 2]) [.l .str x4, .s x5, .i x6, .i x7] rec_ out = F_slices_Index_string_string_l8_t N x4 x5 x6 x7 (fun x4 x5 x6 x7 => rec_ [.l .str x4, .s x5, .i x6, .i x7]) (fun v0 => out 0 [.i v0]) (fun _ => out 1 []) := by kernel_rfl
theorem F_slices_Index_string_string_l8_rel {rd : RD} {O : Type} {OUT : O → Nat × List Lf} (N : Nat) (x4 : List (List UInt8)) (x5 : List UInt8) (x6 : Int) (x7 : Int) (r1 : (List (List UInt8)) → (List UInt8) → (Int) → (Int) → Option O) (r2 : (List (List UInt8)) → (List UInt8) → (Int) → (Int) → Option (List Lf ⊕ (Nat × List Lf))) (p0 : (Int) → Option O) (q0 : (Int) → Option (List Lf ⊕ (Nat × List Lf))) (p1 : Unit → Option O) (q1 : Unit → Option (List Lf ⊕ (Nat × List Lf))) (hr : ∀ x4 x5 x6 x7, Rel rd OUT (r1 x4 x5 x6 x7) (r2 x4 x5 x6 x7)) (h0 : ∀ v0, Rel rd OUT (p0 v0) (q0 v0)) (h1 : ∀ v, Rel rd OUT (p1 v) (q1 v)) :
    Rel rd OUT (F_slices_Index_string_string_l8_t N x4 x5 x6 x7 r1 p0 p1) (F_slices_Index_string_string_l8_t N x4 x5 x6 x7 r2 q0 q1) := by
  unfold F_slices_Index_string_string_l8_t
  exact (Rel.cond (Rel.cond (Rel.cond (h0 _) (hr _ _ _ _)) Rel.none) (h1 _))
theorem F_slices_Index_string_string_l8_it (N : Nat) : ∀ (m : Nat) (x4 : List (List UInt8)) (x5 : List UInt8) (x6 : Int) (x7 : Int) (o : ((Int)) ⊕ (Unit)), F_slices_Index_string_string_l8 N m x4 x5 x6 x7 = some o → It (round1 Tryz.prog glA (tabC (F_slices_Index_string_string_ct N)) 1500 (F_slices_Index_string_string_l8_q N) F_slices_Index_string_string_l8_p F_slices_Index_string_string_l8_o (roundOf Tryz.f38 [1, 0, 1, 2])) [.l .str x4, .s x5, .i x6, .i x7] (F_slices_Index_string_string_l8_O o)
  | 0, _, _, _, _, o, h => by cases h
  | m + 1, x4, x5, x6, x7, o, h => Rel.it2 (F_slices_Index_string_string_l8_r N (R := List Lf ⊕ (Nat × List Lf)) x4 x5 x6 x7 (fun l => some (.inl l)) (fun k os => some (.inr (k, os)))) (F_slices_Index_string_string_l8_rel N x4 x5 x6 x7 _ _ _ _ _ _ (fun x4 x5 x6 x7 => Rel.rec_ fun o h => F_slices_Index_string_string_l8_it N m x4 x5 x6 x7 o h) (fun _ => Rel.out rfl) (fun _ => Rel.out rfl)) h
theorem F_slices_Index_string_string_l8_sp (N : Nat) : LoopSpec (round1 Tryz.prog glA (tabC (F_slices_Index_string_string_ct N)) 1500 (F_slices_Index_string_string_l8_q N) F_slices_Index_string_string_l8_p F_slices_Index_string_string_l8_o (roundOf Tryz.f38 [1, 0, 1, 2])) (F_slices_Index_string_string_l8_S N) := by
  intro R ls κ r h
  unfold F_slices_Index_string_string_l8_S at h
  split at h
  · obtain ⟨x4, e0, g0⟩ := bindS h
    obtain ⟨x5, e1, g1⟩ := bindS g0
    obtain ⟨x6, e2, g2⟩ := bindS g1
    obtain ⟨x7, e3, g3⟩ := bindS g2
    cases getL_s e0
    cases getS_s e1
    cases getI_s e2
    cases getI_s e3
    obtain ⟨o, h1, h2⟩ := bindS g3
    rcases o with o | o
    · exact ⟨_, _, F_slices_Index_string_string_l8_it N N _ _ _ _ _ h1, h2⟩
    · exact ⟨_, _, F_slices_Index_string_string_l8_it N N _ _ _ _ _ h1, h2⟩
  · cases h
theorem F_slices_Index_string_string_l8_c (N : Nat) : SndC Tryz.prog glA hkA (.loop (roundOf Tryz.f38 [1, 0, 1, 2])) (byLoop [] F_slices_Index_string_string_l8_p F_slices_Index_string_string_l8_o (F_slices_Index_string_string_l8_S N)) :=
  loop_sound (F_slices_Index_string_string_ok N) (plok_of (show loopsOf Tryz.prog (F_slices_Index_string_string_l8_q N) (roundOf Tryz.f38 [1, 0, 1, 2]) = some [] by kernel_rfl) trivial) (F_slices_Index_string_string_l8_sp N)
def F_slices_Index_string_string_pl (N : Nat) : Pl := (.two .auto (.two (.two .auto (.one (.by_ (byLoop [] F_slices_Index_string_string_l8_p F_slices_Index_string_string_l8_o (F_slices_Index_string_string_l8_S N))))) .auto))
theorem F_slices_Index_string_string_s (N : Nat) (x : El (tupU [(.sl .str), .str])) : scall Tryz.prog glA (tabC (F_slices_Index_string_string_ct N)) 1500 (F_slices_Index_string_string_pl N) 38 (argsOf [(.sl .str), .str] x) [] (retOf [(.int .i64)]) = F_slices_Index_string_string N x.1 x.2.1 := by kernel_rfl
theorem F_slices_Index_string_string_k (N : Nat) : ∀ fn b, Tryz.prog.funcs[38]? = some fn → fn.body = some b → PlOK Tryz.prog glA hkA (F_slices_Index_string_string_pl N) b :=
  plok_fn Tryz.func38 (show (match Tryz.f38.body with | some b => loopsOf Tryz.prog (F_slices_Index_string_string_pl N) b | none => none) = some [((roundOf Tryz.f38 [1, 0, 1, 2]), byLoop [] F_slices_Index_string_string_l8_p F_slices_Index_string_string_l8_o (F_slices_Index_string_string_l8_S N))] by kernel_rfl) ⟨F_slices_Index_string_string_l8_c N, trivial⟩
theorem F_slices_Index_string_string_c (N : Nat) : SndF Tryz.prog glA hkA 38 (conF [(.sl .str), .str] [(.int .i64)] fun x => F_slices_Index_string_string N x.1 x.2.1) := con_sound (F_slices_Index_string_string_ok N) (F_slices_Index_string_string_k N) (F_slices_Index_string_string_s N)
-- cubbyhole/char.Upper
def F_char_Upper_l8_t (N : Nat) {R : Type} (x5 : Int) (x6 : Int) (x7 : List UInt8) (rec_ : (Int) → (Int) → (List UInt8) → Option R) (o0 : (List UInt8) → Option R) : Option R :=
  (cond (decide (x6 < x5)) (cond (inb x6 (List.length x7)) (cond (decide ((97 : UInt8) ≤ (nth .u8 x7 (Int.toNat x6)))) (cond (decide ((nth .u8 x7 (Int.toNat x6)) ≤ (122 : UInt8))) (cond (inb x6 (List.length x7)) (rec_ x5 (IntKind.wrap .i64 (x6 + (1 : Int))) (List.set x7 (Int.toNat x6) ((nth .u8 x7 (Int.toNat x6)) &&& ~~~(32 : UInt8)))) none) (cond (inb x6 (List.length x7)) (rec_ x5 (IntKind.wrap .i64 (x6 + (1 : Int))) (List.set x7 (Int.toNat x6) (nth .u8 x7 (Int.toNat x6)))) none)) (cond (inb x6 (List.length x7)) (rec_ x5 (IntKind.wrap .i64 (x6 + (1 : Int))) (List.set x7 (Int.toNat x6) (nth .u8 x7 (Int.toNat x6)))) none)) none) (o0 x7))
def F_char_Upper_l8 (N : Nat) : Nat → (Int) → (Int) → (List UInt8) → Option ((List UInt8))
  | 0, _, _, _ => none
  | m + 1, x5, x6, x7 => F_char_Upper_l8_t N x5 x6 x7 (F_char_Upper_l8 N m) (fun v0 => some v0)
def F_char_Upper_l8_O (o : (List UInt8)) : Nat × List Lf := (0, [.l .u8 o])
def F_char_Upper_l8_S (N : Nat) : LS := fun R ls κ => match ls with | [w0, w1, w2] => (Option.bind (getI w0) fun x5 => Option.bind (getI w1) fun x6 => Option.bind (getL .u8 w2) fun x7 => Option.bind (F_char_Upper_l8 N N x5 x6 x7) (fun o => κ 0 [.l .u8 o])) | _ => none
def F_char_Upper_l8_p : PS := ⟨[(.fn 68 [] []), (.ptr 1 0 1), .drop, .drop, .drop, (.gs 0 0), (.int .i64), (.int .i64), .drop, .drop, .drop, .drop, .drop, .drop, .drop, .drop, .drop, .drop, .drop], [.seq .u8 0 0 true, .cells [(.gs 0 0)] 0]⟩
def F_char_Upper_l8_o : List (SX × PS) := [(.exit 0, ⟨[.drop, .drop, .drop, .drop, .drop, .drop, .drop, .drop, .drop, .drop, .drop, .drop, .drop, .drop, .drop, .drop, .drop, .drop, .drop], [.seq .u8 0 0 true, .cells [(.gs 0 0)] 0]⟩)]
def F_char_Upper (N : Nat) (p0 : (List UInt8)) : Option ((List UInt8) × Unit) :=
  (cond (Nat.blt (List.length p0) lim39) (Option.bind (F_char_Upper_l8 N N (((List.length p0) : Nat) : Int) (0 : Int) p0) fun o9 => (some (o9, ()))) none)
def F_char_Upper_ct (N : Nat) : List (FuncId × CF) := [(12, conF [] [.bool] fun _ => some (true, ()))]
theorem F_char_Upper_ok (N : Nat) : CtOK Tryz.prog glA (tabC (F_char_Upper_ct N)) hkA := ctok hkok rfl ⟨yes_sound rfl, trivial⟩
def F_char_Upper_l8_q (N : Nat) : Pl := .auto
theorem F_char_Upper_l8_r (N : Nat) {R : Type} (x5 : Int) (x6 : Int) (x7 : List UInt8) (rec_ : List Lf → Option R) (out : Nat → List Lf → Option R) :
    round Tryz.prog glA (tabC (F_char_Upper_ct N)) 1500 (F_char_Upper_l8_q N) F_char_Upper_l8_p F_char_Upper_l8_o (roundOf Tryz.f67 [1, 2]) [.i x5, .i x6, .l .u8 x7] rec_ out = F_char_Upper_l8_t N x5 x6 x7 (fun x5 x6 x7 => rec_ [.i x5, .i x6, .l .u8 x7]) (fun v0 => out 0 [.l .u8 v0]) := by kernel_rfl
theorem F_char_Upper_l8_rel {rd : RD} {O : Type} {OUT : O → Nat × List Lf} (N : Nat) (x5 : Int) (x6 : Int) (x7 : List UInt8) (r1 : (Int) → (Int) → (List UInt8) → Option O) (r2 : (Int) → (Int) → (List UInt8) → Option (List Lf ⊕ (Nat × List Lf))) (p0 : (List UInt8) → Option O) (q0 : (List UInt8) → Option (List Lf ⊕ (Nat × List Lf))) (hr : ∀ x5 x6 x7, Rel rd OUT (r1 x5 x6 x7) (r2 x5 x6 x7)) (h0 : ∀ v0, Rel rd OUT (p0 v0) (q0 v0)) :
    Rel rd OUT (F_char_Upper_l8_t N x5 x6 x7 r1 p0) (F_char_Upper_l8_t N x5 x6 x7 r2 q0) := by
  unfold F_char_Upper_l8_t
  exact (Rel.cond (Rel.cond (Rel.cond (Rel.cond (Rel.cond (hr _ _ _) Rel.none) (Rel.cond (hr _ _ _) Rel.none)) (Rel.cond (hr _ _ _) Rel.none)) Rel.none) (h0 _))
theorem F_char_Upper_l8_it (N : Nat) : ∀ (m : Nat) (x5 : Int) (x6 : Int) (x7 : List UInt8) (o : (List UInt8)), F_char_Upper_l8 N m x5 x6 x7 = some o → It (round1 Tryz.prog glA (tabC (F_char_Upper_ct N)) 1500 (F_char_Upper_l8_q N) F_char_Upper_l8_p F_char_Upper_l8_o (roundOf Tryz.f67 [1, 2])) [.i x5, .i x6, .l .u8 x7] (F_char_Upper_l8_O o)
  | 0, _, _, _, o, h => by cases h
  | m + 1, x5, x6, x7, o, h => Rel.it2 (F_char_Upper_l8_r N (R := List Lf ⊕ (Nat × List Lf)) x5 x6 x7 (fun l => some (.inl l)) (fun k os => some (.inr (k, os)))) (F_char_Upper_l8_rel N x5 x6 x7 _ _ _ _ (fun x5 x6 x7 => Rel.rec_ fun o h => F_char_Upper_l8_it N m x5 x6 x7 o h) (fun _ => Rel.out rfl)) h
theorem F_char_Upper_l8_sp (N : Nat) : LoopSpec (round1 Tryz.prog glA (tabC (F_char_Upper_ct N)) 1500 (F_char_Upper_l8_q N) F_char_Upper_l8_p F_char_Upper_l8_o (roundOf Tryz.f67 [1, 2])) (F_char_Upper_l8_S N) := by
  intro R ls κ r h
  unfold F_char_Upper_l8_S at h
  split at h
  · obtain ⟨x5, e0, g0⟩ := bindS h
    obtain ⟨x6, e1, g1⟩ := bindS g0
    obtain ⟨x7, e2, g2⟩ := bindS g1
    cases getI_s e0
    cases getI_s e1
    cases getL_s e2
    obtain ⟨o, h1, h2⟩ := bindS g2
    exact ⟨_, _, F_char_Upper_l8_it N N _ _ _ o h1, h2⟩
  · cases h
theorem F_char_Upper_l8_c (N : Nat) : SndC Tryz.prog glA hkA (.loop (roundOf Tryz.f67 [1, 2])) (byLoop [] F_char_Upper_l8_p F_char_Upper_l8_o (F_char_Upper_l8_S N)) :=
  loop_sound (F_char_Upper_ok N) (plok_of (show loopsOf Tryz.prog (F_char_Upper_l8_q N) (roundOf Tryz.f67 [1, 2]) = some [] by kernel_rfl) trivial) (F_char_Upper_l8_sp N)
def F_char_Upper_pl (N : Nat) : Pl := (.two .auto (.two .auto (.two .auto (.two (.cal 1 67 (.two .auto (.one (.by_ (byLoop [] F_char_Upper_l8_p F_char_Upper_l8_o (F_char_Upper_l8_S N))))) .auto) .auto))))
theorem F_char_Upper_s (N : Nat) (x : El (tupU [.str])) : scall Tryz.prog glA (tabC (F_char_Upper_ct N)) 1500 (F_char_Upper_pl N) 40 (argsOf [.str] x) [] (retOf [.str]) = F_char_Upper N x.1 := by kernel_rfl
theorem F_char_Upper_k (N : Nat) : ∀ fn b, Tryz.prog.funcs[40]? = some fn → fn.body = some b → PlOK Tryz.prog glA hkA (F_char_Upper_pl N) b :=
  plok_fn Tryz.func40 (show (match Tryz.f40.body with | some b => loopsOf Tryz.prog (F_char_Upper_pl N) b | none => none) = some [((roundOf Tryz.f67 [1, 2]), byLoop [] F_char_Upper_l8_p F_char_Upper_l8_o (F_char_Upper_l8_S N))] by kernel_rfl) ⟨F_char_Upper_l8_c N, trivial⟩
theorem F_char_Upper_c (N : Nat) : SndF Tryz.prog glA hkA 40 (conF [.str] [.str] fun x => F_char_Upper N x.1) := con_sound (F_char_Upper_ok N) (F_char_Upper_k N) (F_char_Upper_s N)
-- cubbyhole/command.Kind
def F_command_Kind (N : Nat) (p0 : (List UInt8)) : Option (Int × Bool × Unit) :=
  (Option.bind (F_char_Upper N p0) fun y1 => (Option.bind (F_slices_Index_string_string N ([([78, 79, 79, 80] : List UInt8), ([76, 79, 71, 79, 85, 84] : List UInt8), ([67, 76, 79, 83, 69] : List UInt8), ([69, 88, 80, 85, 78, 71, 69] : List UInt8), ([83, 69, 76, 69, 67, 84] : List UInt8), ([65, 80, 80, 69, 78, 68] : List UInt8), ([70, 69, 84, 67, 72] : List UInt8), ([83, 84, 79, 82, 69] : List UInt8)] : List (List UInt8)) y1.1) fun y2 => (some ((IntKind.wrap .i64 (y2.1 + (1 : Int))), (decide ((0 : Int) ≤ y2.1)), ()))))
def F_command_Kind_ct (N : Nat) : List (FuncId × CF) := [(40, conF [.str] [.str] fun x => F_char_Upper N x.1), (38, conF [(.sl .str), .str] [(.int .i64)] fun x => F_slices_Index_string_string N x.1 x.2.1), (12, conF [] [.bool] fun _ => some (true, ()))]
theorem F_command_Kind_ok (N : Nat) : CtOK Tryz.prog glA (tabC (F_command_Kind_ct N)) hkA := ctok hkok rfl ⟨F_char_Upper_c N, F_slices_Index_string_string_c N, yes_sound rfl, trivial⟩
def F_command_Kind_pl (N : Nat) : Pl := .auto
theorem F_command_Kind_s (N : Nat) (x : El (tupU [.str])) : scall Tryz.prog glA (tabC (F_command_Kind_ct N)) 1500 (F_command_Kind_pl N) 13 (argsOf [.str] x) [] (retOf [(.int .i64), .bool]) = F_command_Kind N x.1 := by kernel_rfl
theorem F_command_Kind_k (N : Nat) : ∀ fn b, Tryz.prog.funcs[13]? = some fn → fn.body = some b → PlOK Tryz.prog glA hkA (F_command_Kind_pl N) b :=
  plok_fn Tryz.func13 (show (match Tryz.f13.body with | some b => loopsOf Tryz.prog (F_command_Kind_pl N) b | none => none) = some [] by kernel_rfl) trivial
theorem F_command_Kind_c (N : Nat) : SndF Tryz.prog glA hkA 13 (conF [.str] [(.int .i64), .bool] fun x => F_command_Kind N x.1) := con_sound (F_command_Kind_ok N) (F_command_Kind_k N) (F_command_Kind_s N)
-- cubbyhole/command.Item
def F_command_Item (N : Nat) (p0 : (List UInt8)) : Option (Int × Bool × Unit) :=
  (Option.bind (F_char_Upper N p0) fun y1 => (Option.bind (F_slices_Index_string_string N ([([70, 76, 65, 71, 83] : List UInt8), ([85, 73, 68] : List UInt8), ([82, 70, 67, 56, 50, 50, 46, 83, 73, 90, 69] : List UInt8), ([66, 79, 68, 89, 46, 80, 69, 69, 75, 91, 93] : List UInt8), ([66, 79, 68, 89, 91, 93] : List UInt8)] : List (List UInt8)) y1.1) fun y2 => (cond (decide (y2.1 < (0 : Int))) (some ((0 : Int), false, ())) (cond (decide ((0 : Int) ≤ y2.1)) (some ((IntKind.wrap .i64 ((1 : Int) * (2 ^ (min (Int.toNat y2.1) (IntKind.bits .i64))))), true, ())) none))))
def F_command_Item_ct (N : Nat) : List (FuncId × CF) := [(40, conF [.str] [.str] fun x => F_char_Upper N x.1), (38, conF [(.sl .str), .str] [(.int .i64)] fun x => F_slices_Index_string_string N x.1 x.2.1), (12, conF [] [.bool] fun _ => some (true, ()))]
theorem F_command_Item_ok (N : Nat) : CtOK Tryz.prog glA (tabC (F_command_Item_ct N)) hkA := ctok hkok rfl ⟨F_char_Upper_c N, F_slices_Index_string_string_c N, yes_sound rfl, trivial⟩
def F_command_Item_pl (N : Nat) : Pl := .auto
theorem F_command_Item_s (N : Nat) (x : El (tupU [.str])) : scall Tryz.prog glA (tabC (F_command_Item_ct N)) 1500 (F_command_Item_pl N) 14 (argsOf [.str] x) [] (retOf [(.int .i64), .bool]) = F_command_Item N x.1 := by kernel_rfl
theorem F_command_Item_k (N : Nat) : ∀ fn b, Tryz.prog.funcs[14]? = some fn → fn.body = some b → PlOK Tryz.prog glA hkA (F_command_Item_pl N) b :=
  plok_fn Tryz.func14 (show (match Tryz.f14.body with | some b => loopsOf Tryz.prog (F_command_Item_pl N) b | none => none) = some [] by kernel_rfl) trivial
theorem F_command_Item_c (N : Nat) : SndF Tryz.prog glA hkA 14 (conF [.str] [(.int .i64), .bool] fun x => F_command_Item N x.1) := con_sound (F_command_Item_ok N) (F_command_Item_k N) (F_command_Item_s N)
-- cubbyhole/command.Verb
def F_command_Verb (N : Nat) (p0 : Int) : Option ((List UInt8) × Unit) :=
  (cond (decide ((1 : Int) ≤ p0)) (cond (decide (p0 ≤ (8 : Int))) (cond (inb (IntKind.wrap .i64 (p0 - (1 : Int))) 8) (some ((nth .str ([([78, 79, 79, 80] : List UInt8), ([76, 79, 71, 79, 85, 84] : List UInt8), ([67, 76, 79, 83, 69] : List UInt8), ([69, 88, 80, 85, 78, 71, 69] : List UInt8), ([83, 69, 76, 69, 67, 84] : List UInt8), ([65, 80, 80, 69, 78, 68] : List UInt8), ([70, 69, 84, 67, 72] : List UInt8), ([83, 84, 79, 82, 69] : List UInt8)] : List (List UInt8)) (Int.toNat (IntKind.wrap .i64 (p0 - (1 : Int))))), ())) none) (some (([] : List UInt8), ()))) (some (([] : List UInt8), ())))
def F_command_Verb_ct (N : Nat) : List (FuncId × CF) := [(12, conF [] [.bool] fun _ => some (true, ()))]
theorem F_command_Verb_ok (N : Nat) : CtOK Tryz.prog glA (tabC (F_command_Verb_ct N)) hkA := ctok hkok rfl ⟨yes_sound rfl, trivial⟩
def F_command_Verb_pl (N : Nat) : Pl := .auto
theorem F_command_Verb_s (N : Nat) (x : El (tupU [(.int .i64)])) : scall Tryz.prog glA (tabC (F_command_Verb_ct N)) 1500 (F_command_Verb_pl N) 15 (argsOf [(.int .i64)] x) [] (retOf [.str]) = F_command_Verb N x.1 := by kernel_rfl
theorem F_command_Verb_k (N : Nat) : ∀ fn b, Tryz.prog.funcs[15]? = some fn → fn.body = some b → PlOK Tryz.prog glA hkA (F_command_Verb_pl N) b :=
  plok_fn Tryz.func15 (show (match Tryz.f15.body with | some b => loopsOf Tryz.prog (F_command_Verb_pl N) b | none => none) = some [] by kernel_rfl) trivial
theorem F_command_Verb_c (N : Nat) : SndF Tryz.prog glA hkA 15 (conF [(.int .i64)] [.str] fun x => F_command_Verb N x.1) := con_sound (F_command_Verb_ok N) (F_command_Verb_k N) (F_command_Verb_s N)
-- cubbyhole/cubbyholeref07.Verb
def F_ref07_Verb (N : Nat) (p0 : Int) : Option ((List UInt8) × Unit) :=
  (cond (decide (p0 < (1 : Int))) (some (([] : List UInt8), ())) (cond (decide ((8 : Int) < p0)) (some (([] : List UInt8), ())) (cond (inb (IntKind.wrap .i64 (p0 - (1 : Int))) 8) (some ((nth .str ([([78, 79, 79, 80] : List UInt8), ([76, 79, 71, 79, 85, 84] : List UInt8), ([67, 76, 79, 83, 69] : List UInt8), ([69, 88, 80, 85, 78, 71, 69] : List UInt8), ([83, 69, 76, 69, 67, 84] : List UInt8), ([65, 80, 80, 69, 78, 68] : List UInt8), ([70, 69, 84, 67, 72] : List UInt8), ([83, 84, 79, 82, 69] : List UInt8)] : List (List UInt8)) (Int.toNat (IntKind.wrap .i64 (p0 - (1 : Int))))), ())) none)))
def F_ref07_Verb_ct (N : Nat) : List (FuncId × CF) := [(12, conF [] [.bool] fun _ => some (true, ()))]
theorem F_ref07_Verb_ok (N : Nat) : CtOK Tryz.prog glA (tabC (F_ref07_Verb_ct N)) hkA := ctok hkok rfl ⟨yes_sound rfl, trivial⟩
def F_ref07_Verb_pl (N : Nat) : Pl := .auto
theorem F_ref07_Verb_s (N : Nat) (x : El (tupU [(.int .i64)])) : scall Tryz.prog glA (tabC (F_ref07_Verb_ct N)) 1500 (F_ref07_Verb_pl N) 16 (argsOf [(.int .i64)] x) [] (retOf [.str]) = F_ref07_Verb N x.1 := by kernel_rfl
theorem F_ref07_Verb_k (N : Nat) : ∀ fn b, Tryz.prog.funcs[16]? = some fn → fn.body = some b → PlOK Tryz.prog glA hkA (F_ref07_Verb_pl N) b :=
  plok_fn Tryz.func16 (show (match Tryz.f16.body with | some b => loopsOf Tryz.prog (F_ref07_Verb_pl N) b | none => none) = some [] by kernel_rfl) trivial
theorem F_ref07_Verb_c (N : Nat) : SndF Tryz.prog glA hkA 16 (conF [(.int .i64)] [.str] fun x => F_ref07_Verb N x.1) := con_sound (F_ref07_Verb_ok N) (F_ref07_Verb_k N) (F_ref07_Verb_s N)
-- cubbyhole/cubbyholeref01.Upper
def F_ref01_Upper_l5_t (N : Nat) {R : Type} (x2 : List UInt8) (x3 : List UInt8) (x4 : Int) (rec_ : (List UInt8) → (List UInt8) → (Int) → Option R) (o0 : (List UInt8) → Option R) : Option R :=
  (cond (decide (x4 < (((List.length x2) : Nat) : Int))) (cond (inb x4 (List.length x2)) (cond (decide ((97 : UInt8) ≤ (nth .u8 x2 (Int.toNat x4)))) (cond (decide ((nth .u8 x2 (Int.toNat x4)) ≤ (122 : UInt8))) (cond (decide (List.length x3 + List.length ([((nth .u8 x2 (Int.toNat x4)) - (32 : UInt8))] : List UInt8) < 4611686018427387904)) (rec_ x2 (x3 ++ ([((nth .u8 x2 (Int.toNat x4)) - (32 : UInt8))] : List UInt8)) (IntKind.wrap .i64 (x4 + (1 : Int)))) none) (cond (decide (List.length x3 + List.length ([(nth .u8 x2 (Int.toNat x4))] : List UInt8) < 4611686018427387904)) (rec_ x2 (x3 ++ ([(nth .u8 x2 (Int.toNat x4))] : List UInt8)) (IntKind.wrap .i64 (x4 + (1 : Int)))) none)) (cond (decide (List.length x3 + List.length ([(nth .u8 x2 (Int.toNat x4))] : List UInt8) < 4611686018427387904)) (rec_ x2 (x3 ++ ([(nth .u8 x2 (Int.toNat x4))] : List UInt8)) (IntKind.wrap .i64 (x4 + (1 : Int)))) none)) none) (o0 x3))
def F_ref01_Upper_l5 (N : Nat) : Nat → (List UInt8) → (List UInt8) → (Int) → Option ((List UInt8))
  | 0, _, _, _ => none
  | m + 1, x2, x3, x4 => F_ref01_Upper_l5_t N x2 x3 x4 (F_ref01_Upper_l5 N m) (fun v0 => some v0)
def F_ref01_Upper_l5_O (o : (List UInt8)) : Nat × List Lf := (0, [.s o])
def F_ref01_Upper_l5_S (N : Nat) : LS := fun R ls κ => match ls with | [w0, w1, w2] => (Option.bind (getS w0) fun x2 => Option.bind (getS w1) fun x3 => Option.bind (getI w2) fun x4 => Option.bind (F_ref01_Upper_l5 N N x2 x3 x4) (fun o => κ 0 [.s o])) | _ => none
def F_ref01_Upper_l5_p : PS := ⟨[.str, .drop, .drop, .str, (.int .i64), .drop, .drop, .drop, .drop, .drop, .drop, .drop, .drop, .drop, .drop, .drop, .drop, .drop, .drop, .drop, .drop, .drop, .drop, .drop, .drop, .drop, .drop, .drop, .drop], []⟩
def F_ref01_Upper_l5_o : List (SX × PS) := [(.exit 0, ⟨[.drop, .drop, .drop, .str, .drop, .drop, .drop, .drop, .drop, .drop, .drop, .drop, .drop, .drop, .drop, .drop, .drop, .drop, .drop, .drop, .drop, .drop, .drop, .drop, .drop, .drop, .drop, .drop, .drop], []⟩)]
def F_ref01_Upper (N : Nat) (p0 : (List UInt8)) : Option ((List UInt8) × Unit) :=
  (Option.bind (F_ref01_Upper_l5 N N p0 ([] : List UInt8) (0 : Int)) fun o6 => (some (o6, ())))
def F_ref01_Upper_ct (N : Nat) : List (FuncId × CF) := [(12, conF [] [.bool] fun _ => some (true, ()))]
theorem F_ref01_Upper_ok (N : Nat) : CtOK Tryz.prog glA (tabC (F_ref01_Upper_ct N)) hkA := ctok hkok rfl ⟨yes_sound rfl, trivial⟩
def F_ref01_Upper_l5_q (N : Nat) : Pl := .auto
theorem F_ref01_Upper_l5_r (N : Nat) {R : Type} (x2 : List UInt8) (x3 : List UInt8) (x4 : Int) (rec_ : List Lf → Option R) (out : Nat → List Lf → Option R) :
    round Tryz.prog glA (tabC (F_ref01_Upper_ct N)) 1500 (F_ref01_Upper_l5_q N) F_ref01_Upper_l5_p F_ref01_Upper_l5_o (roundOf Tryz.f41 [1, 1, 0, 1, 2]) [.s x2, .s x3, .i x4] rec_ out = F_ref01_Upper_l5_t N x2 x3 x4 (fun x2 x3 x4 => rec_ [.s x2, .s x3, .i x4]) (fun v0 => out 0 [.s v0]) := by kernel_rfl
theorem F_ref01_Upper_l5_rel {rd : RD} {O : Type} {OUT : O → Nat × List Lf} (N : Nat) (x2 : List UInt8) (x3 : List UInt8) (x4 : Int) (r1 : (List UInt8) → (List UInt8) → (Int) → Option O) (r2 : (List UInt8) → (List UInt8) → (Int) → Option (List Lf ⊕ (Nat × List Lf))) (p0 : (List UInt8) → Option O) (q0 : (List UInt8) → Option (List Lf ⊕ (Nat × List Lf))) (hr : ∀ x2 x3 x4, Rel rd OUT (r1 x2 x3 x4) (r2 x2 x3 x4)) (h0 : ∀ v0, Rel rd OUT (p0 v0) (q0 v0)) :
    Rel rd OUT (F_ref01_Upper_l5_t N x2 x3 x4 r1 p0) (F_ref01_Upper_l5_t N x2 x3 x4 r2 q0) := by
  unfold F_ref01_Upper_l5_t
  exact (Rel.cond (Rel.cond (Rel.cond (Rel.cond (Rel.cond (hr _ _ _) Rel.none) (Rel.cond (hr _ _ _) Rel.none)) (Rel.cond (hr _ _ _) Rel.none)) Rel.none) (h0 _))
theorem F_ref01_Upper_l5_it (N : Nat) : ∀ (m : Nat) (x2 : List UInt8) (x3 : List UInt8) (x4 : Int) (o : (List UInt8)), F_ref01_Upper_l5 N m x2 x3 x4 = some o → It (round1 Tryz.prog glA (tabC (F_ref01_Upper_ct N)) 1500 (F_ref01_Upper_l5_q N) F_ref01_Upper_l5_p F_ref01_Upper_l5_o (roundOf Tryz.f41 [1, 1, 0, 1, 2])) [.s x2, .s x3, .i x4] (F_ref01_Upper_l5_O o)
  | 0, _, _, _, o, h => by cases h
  | m + 1, x2, x3, x4, o, h => Rel.it2 (F_ref01_Upper_l5_r N (R := List Lf ⊕ (Nat × List Lf)) x2 x3 x4 (fun l => some (.inl l)) (fun k os => some (.inr (k, os)))) (F_ref01_Upper_l5_rel N x2 x3 x4 _ _ _ _ (fun x2 x3 x4 => Rel.rec_ fun o h => F_ref01_Upper_l5_it N m x2 x3 x4 o h) (fun _ => Rel.out rfl)) h
theorem F_ref01_Upper_l5_sp (N : Nat) : LoopSpec (round1 Tryz.prog glA (tabC (F_ref01_Upper_ct N)) 1500 (F_ref01_Upper_l5_q N) F_ref01_Upper_l5_p F_ref01_Upper_l5_o (roundOf Tryz.f41 [1, 1, 0, 1, 2])) (F_ref01_Upper_l5_S N) := by
  intro R ls κ r h
  unfold F_ref01_Upper_l5_S at h
  split at h
  · obtain ⟨x2, e0, g0⟩ := bindS h
    obtain ⟨x3, e1, g1⟩ := bindS g0
    obtain ⟨x4, e2, g2⟩ := bindS g1
    cases getS_s e0
    cases getS_s e1
    cases getI_s e2
    obtain ⟨o, h1, h2⟩ := bindS g2
    exact ⟨_, _, F_ref01_Upper_l5_it N N _ _ _ o h1, h2⟩
  · cases h
theorem F_ref01_Upper_l5_c (N : Nat) : SndC Tryz.prog glA hkA (.loop (roundOf Tryz.f41 [1, 1, 0, 1, 2])) (byLoop [] F_ref01_Upper_l5_p F_ref01_Upper_l5_o (F_ref01_Upper_l5_S N)) :=
  loop_sound (F_ref01_Upper_ok N) (plok_of (show loopsOf Tryz.prog (F_ref01_Upper_l5_q N) (roundOf Tryz.f41 [1, 1, 0, 1, 2]) = some [] by kernel_rfl) trivial) (F_ref01_Upper_l5_sp N)
def F_ref01_Upper_pl (N : Nat) : Pl := (.two .auto (.two .auto (.two (.two .auto (.one (.by_ (byLoop [] F_ref01_Upper_l5_p F_ref01_Upper_l5_o (F_ref01_Upper_l5_S N))))) .auto)))
theorem F_ref01_Upper_s (N : Nat) (x : El (tupU [.str])) : scall Tryz.prog glA (tabC (F_ref01_Upper_ct N)) 1500 (F_ref01_Upper_pl N) 41 (argsOf [.str] x) [] (retOf [.str]) = F_ref01_Upper N x.1 := by kernel_rfl
theorem F_ref01_Upper_k (N : Nat) : ∀ fn b, Tryz.prog.funcs[41]? = some fn → fn.body = some b → PlOK Tryz.prog glA hkA (F_ref01_Upper_pl N) b :=
  plok_fn Tryz.func41 (show (match Tryz.f41.body with | some b => loopsOf Tryz.prog (F_ref01_Upper_pl N) b | none => none) = some [((roundOf Tryz.f41 [1, 1, 0, 1, 2]), byLoop [] F_ref01_Upper_l5_p F_ref01_Upper_l5_o (F_ref01_Upper_l5_S N))] by kernel_rfl) ⟨F_ref01_Upper_l5_c N, trivial⟩
theorem F_ref01_Upper_c (N : Nat) : SndF Tryz.prog glA hkA 41 (conF [.str] [.str] fun x => F_ref01_Upper N x.1) := con_sound (F_ref01_Upper_ok N) (F_ref01_Upper_k N) (F_ref01_Upper_s N)
-- cubbyhole/cubbyholeref07.Kind
def F_ref07_Kind_l10_t (N : Nat) {R : Type} (x6 : List UInt8) (x7 : Int) (rec_ : (List UInt8) → (Int) → Option R) (o0 : (Int) → Option R) (o1 : Unit → Option R) : Option R :=
  (cond (decide (x7 ≤ (8 : Int))) (Option.bind (F_ref07_Verb N x7) fun y11 => (Option.bind (F_ref01_Upper N x6) fun y12 => (cond (y11.1 == y12.1) (o0 x7) (rec_ x6 (IntKind.wrap .i64 (x7 + (1 : Int))))))) (o1 ()))
def F_ref07_Kind_l10 (N : Nat) : Nat → (List UInt8) → (Int) → Option (((Int)) ⊕ (Unit))
  | 0, _, _ => none
  | m + 1, x6, x7 => F_ref07_Kind_l10_t N x6 x7 (F_ref07_Kind_l10 N m) (fun v0 => some (Sum.inl v0)) (fun _ => some (Sum.inr ()))
def F_ref07_Kind_l10_O (o : ((Int)) ⊕ (Unit)) : Nat × List Lf := sumCase o (fun a => (0, [.i a])) (fun b0 => (1, []))
def F_ref07_Kind_l10_S (N : Nat) : LS := fun R ls κ => match ls with | [w0, w1] => (Option.bind (getS w0) fun x6 => Option.bind (getI w1) fun x7 => Option.bind (F_ref07_Kind_l10 N N x6 x7) (fun o => (sumCase o (fun a13 => κ 0 [.i a13]) (fun b14 => κ 1 [])))) | _ => none
def F_ref07_Kind_l10_p : PS := ⟨[.str, .drop, .drop, (.int .i64), .drop, .drop, .drop, .drop, .drop, .drop, .drop, .drop, .drop, .drop], []⟩
def F_ref07_Kind_l10_o : List (SX × PS) := [(.ret, ⟨[.drop, .drop, (.int .i64), .drop, .drop, .drop, .drop, .drop, .drop, .drop, .drop, .drop, .drop, .drop], []⟩), (.exit 0, ⟨[.drop, .drop, .drop, .drop, .drop, .drop, .drop, .drop, .drop, .drop, .drop, .drop, .drop, .drop], []⟩)]
def F_ref07_Kind (N : Nat) (p0 : (List UInt8)) : Option (Int × Unit) :=
  (Option.bind (F_ref07_Kind_l10 N N p0 (1 : Int)) fun o15 => (sumCase o15 (fun a16 => (some (a16, ()))) (fun b17 => (some ((0 : Int), ())))))
def F_ref07_Kind_ct (N : Nat) : List (FuncId × CF) := [(16, conF [(.int .i64)] [.str] fun x => F_ref07_Verb N x.1), (41, conF [.str] [.str] fun x => F_ref01_Upper N x.1), (12, conF [] [.bool] fun _ => some (true, ()))]
theorem F_ref07_Kind_ok (N : Nat) : CtOK Tryz.prog glA (tabC (F_ref07_Kind_ct N)) hkA := ctok hkok rfl ⟨F_ref07_Verb_c N, F_ref01_Upper_c N, yes_sound rfl, trivial⟩
def F_ref07_Kind_l10_q (N : Nat) : Pl := .auto
theorem F_ref07_Kind_l10_r (N : Nat) {R : Type} (x6 : List UInt8) (x7 : Int) (rec_ : List Lf → Option R) (out : Nat → List Lf → Option R) :
    round Tryz.prog glA (tabC (F_ref07_Kind_ct N)) 1500 (F_ref07_Kind_l10_q N) F_ref07_Kind_l10_p F_ref07_Kind_l10_o (roundOf Tryz.f17 [1, 0, 1, 2]) [.s x6, .i x7] rec_ out = F_ref07_Kind_l10_t N x6 x7 (fun x6 x7 => rec_ [.s x6, .i x7]) (fun v0 => out 0 [.i v0]) (fun _ => out 1 []) := by kernel_rfl
theorem F_ref07_Kind_l10_rel {rd : RD} {O : Type} {OUT : O → Nat × List Lf} (N : Nat) (x6 : List UInt8) (x7 : Int) (r1 : (List UInt8) → (Int) → Option O) (r2 : (List UInt8) → (Int) → Option (List Lf ⊕ (Nat × List Lf))) (p0 : (Int) → Option O) (q0 : (Int) → Option (List Lf ⊕ (Nat × List Lf))) (p1 : Unit → Option O) (q1 : Unit → Option (List Lf ⊕ (Nat × List Lf))) (hr : ∀ x6 x7, Rel rd OUT (r1 x6 x7) (r2 x6 x7)) (h0 : ∀ v0, Rel rd OUT (p0 v0) (q0 v0)) (h1 : ∀ v, Rel rd OUT (p1 v) (q1 v)) :
    Rel rd OUT (F_ref07_Kind_l10_t N x6 x7 r1 p0 p1) (F_ref07_Kind_l10_t N x6 x7 r2 q0 q1) := by
  unfold F_ref07_Kind_l10_t
  exact (Rel.cond (Rel.bind fun y11 => (Rel.bind fun y12 => (Rel.cond (h0 _) (hr _ _)))) (h1 _))
theorem F_ref07_Kind_l10_it (N : Nat) : ∀ (m : Nat) (x6 : List UInt8) (x7 : Int) (o : ((Int)) ⊕ (Unit)), F_ref07_Kind_l10 N m x6 x7 = some o → It (round1 Tryz.prog glA (tabC (F_ref07_Kind_ct N)) 1500 (F_ref07_Kind_l10_q N) F_ref07_Kind_l10_p F_ref07_Kind_l10_o (roundOf Tryz.f17 [1, 0, 1, 2])) [.s x6, .i x7] (F_ref07_Kind_l10_O o)
  | 0, _, _, o, h => by cases h
  | m + 1, x6, x7, o, h => Rel.it2 (F_ref07_Kind_l10_r N (R := List Lf ⊕ (Nat × List Lf)) x6 x7 (fun l => some (.inl l)) (fun k os => some (.inr (k, os)))) (F_ref07_Kind_l10_rel N x6 x7 _ _ _ _ _ _ (fun x6 x7 => Rel.rec_ fun o h => F_ref07_Kind_l10_it N m x6 x7 o h) (fun _ => Rel.out rfl) (fun _ => Rel.out rfl)) h
theorem F_ref07_Kind_l10_sp (N : Nat) : LoopSpec (round1 Tryz.prog glA (tabC (F_ref07_Kind_ct N)) 1500 (F_ref07_Kind_l10_q N) F_ref07_Kind_l10_p F_ref07_Kind_l10_o (roundOf Tryz.f17 [1, 0, 1, 2])) (F_ref07_Kind_l10_S N) := by
  intro R ls κ r h
  unfold F_ref07_Kind_l10_S at h
  split at h
  · obtain ⟨x6, e0, g0⟩ := bindS h
    obtain ⟨x7, e1, g1⟩ := bindS g0
    cases getS_s e0
    cases getI_s e1
    obtain ⟨o, h1, h2⟩ := bindS g1
    rcases o with o | o
    · exact ⟨_, _, F_ref07_Kind_l10_it N N _ _ _ h1, h2⟩
    · exact ⟨_, _, F_ref07_Kind_l10_it N N _ _ _ h1, h2⟩
  · cases h
theorem F_ref07_Kind_l10_c (N : Nat) : SndC Tryz.prog glA hkA (.loop (roundOf Tryz.f17 [1, 0, 1, 2])) (byLoop [] F_ref07_Kind_l10_p F_ref07_Kind_l10_o (F_ref07_Kind_l10_S N)) :=
  loop_sound (F_ref07_Kind_ok N) (plok_of (show loopsOf Tryz.prog (F_ref07_Kind_l10_q N) (roundOf Tryz.f17 [1, 0, 1, 2]) = some [] by kernel_rfl) trivial) (F_ref07_Kind_l10_sp N)
def F_ref07_Kind_pl (N : Nat) : Pl := (.two .auto (.two (.two .auto (.one (.by_ (byLoop [] F_ref07_Kind_l10_p F_ref07_Kind_l10_o (F_ref07_Kind_l10_S N))))) .auto))
theorem F_ref07_Kind_s (N : Nat) (x : El (tupU [.str])) : scall Tryz.prog glA (tabC (F_ref07_Kind_ct N)) 1500 (F_ref07_Kind_pl N) 17 (argsOf [.str] x) [] (retOf [(.int .i64)]) = F_ref07_Kind N x.1 := by kernel_rfl
theorem F_ref07_Kind_k (N : Nat) : ∀ fn b, Tryz.prog.funcs[17]? = some fn → fn.body = some b → PlOK Tryz.prog glA hkA (F_ref07_Kind_pl N) b :=
  plok_fn Tryz.func17 (show (match Tryz.f17.body with | some b => loopsOf Tryz.prog (F_ref07_Kind_pl N) b | none => none) = some [((roundOf Tryz.f17 [1, 0, 1, 2]), byLoop [] F_ref07_Kind_l10_p F_ref07_Kind_l10_o (F_ref07_Kind_l10_S N))] by kernel_rfl) ⟨F_ref07_Kind_l10_c N, trivial⟩
theorem F_ref07_Kind_c (N : Nat) : SndF Tryz.prog glA hkA 17 (conF [.str] [(.int .i64)] fun x => F_ref07_Kind N x.1) := con_sound (F_ref07_Kind_ok N) (F_ref07_Kind_k N) (F_ref07_Kind_s N)
-- cubbyhole/cubbyholeref07.ItemName
def F_ref07_ItemName (N : Nat) (p0 : Int) : Option ((List UInt8) × Unit) :=
  (cond (p0 == (1 : Int)) (some (([70, 76, 65, 71, 83] : List UInt8), ())) (cond (p0 == (2 : Int)) (some (([85, 73, 68] : List UInt8), ())) (cond (p0 == (4 : Int)) (some (([82, 70, 67, 56, 50, 50, 46, 83, 73, 90, 69] : List UInt8), ())) (cond (p0 == (8 : Int)) (some (([66, 79, 68, 89, 46, 80, 69, 69, 75, 91, 93] : List UInt8), ())) (cond (p0 == (16 : Int)) (some (([66, 79, 68, 89, 91, 93] : List UInt8), ())) (some (([] : List UInt8), ())))))))
def F_ref07_ItemName_ct (N : Nat) : List (FuncId × CF) := [(12, conF [] [.bool] fun _ => some (true, ()))]
theorem F_ref07_ItemName_ok (N : Nat) : CtOK Tryz.prog glA (tabC (F_ref07_ItemName_ct N)) hkA := ctok hkok rfl ⟨yes_sound rfl, trivial⟩
def F_ref07_ItemName_pl (N : Nat) : Pl := .auto
theorem F_ref07_ItemName_s (N : Nat) (x : El (tupU [(.int .i64)])) : scall Tryz.prog glA (tabC (F_ref07_ItemName_ct N)) 1500 (F_ref07_ItemName_pl N) 42 (argsOf [(.int .i64)] x) [] (retOf [.str]) = F_ref07_ItemName N x.1 := by kernel_rfl
theorem F_ref07_ItemName_k (N : Nat) : ∀ fn b, Tryz.prog.funcs[42]? = some fn → fn.body = some b → PlOK Tryz.prog glA hkA (F_ref07_ItemName_pl N) b :=
  plok_fn Tryz.func42 (show (match Tryz.f42.body with | some b => loopsOf Tryz.prog (F_ref07_ItemName_pl N) b | none => none) = some [] by kernel_rfl) trivial
theorem F_ref07_ItemName_c (N : Nat) : SndF Tryz.prog glA hkA 42 (conF [(.int .i64)] [.str] fun x => F_ref07_ItemName N x.1) := con_sound (F_ref07_ItemName_ok N) (F_ref07_ItemName_k N) (F_ref07_ItemName_s N)
-- cubbyhole/cubbyholeref07.Item
def F_ref07_Item_l10_t (N : Nat) {R : Type} (x6 : List UInt8) (x7 : Int) (rec_ : (List UInt8) → (Int) → Option R) (o0 : (Int) → Option R) (o1 : Unit → Option R) : Option R :=
  (cond (decide (x7 ≤ (16 : Int))) (Option.bind (F_ref07_ItemName N x7) fun y11 => (Option.bind (F_ref01_Upper N x6) fun y12 => (cond (y11.1 == y12.1) (o0 x7) (rec_ x6 (IntKind.wrap .i64 ((2 : Int) * x7)))))) (o1 ()))
def F_ref07_Item_l10 (N : Nat) : Nat → (List UInt8) → (Int) → Option (((Int)) ⊕ (Unit))
  | 0, _, _ => none
  | m + 1, x6, x7 => F_ref07_Item_l10_t N x6 x7 (F_ref07_Item_l10 N m) (fun v0 => some (Sum.inl v0)) (fun _ => some (Sum.inr ()))
def F_ref07_Item_l10_O (o : ((Int)) ⊕ (Unit)) : Nat × List Lf := sumCase o (fun a => (0, [.i a])) (fun b0 => (1, []))
def F_ref07_Item_l10_S (N : Nat) : LS := fun R ls κ => match ls with | [w0, w1] => (Option.bind (getS w0) fun x6 => Option.bind (getI w1) fun x7 => Option.bind (F_ref07_Item_l10 N N x6 x7) (fun o => (sumCase o (fun a13 => κ 0 [.i a13]) (fun b14 => κ 1 [])))) | _ => none
def F_ref07_Item_l10_p : PS := ⟨[.str, .drop, .drop, (.int .i64), .drop, .drop, .drop, .drop, .drop, .drop, .drop, .drop, .drop, .drop], []⟩
def F_ref07_Item_l10_o : List (SX × PS) := [(.ret, ⟨[.drop, .drop, (.int .i64), .drop, .drop, .drop, .drop, .drop, .drop, .drop, .drop, .drop, .drop, .drop], []⟩), (.exit 0, ⟨[.drop, .drop, .drop, .drop, .drop, .drop, .drop, .drop, .drop, .drop, .drop, .drop, .drop, .drop], []⟩)]
def F_ref07_Item (N : Nat) (p0 : (List UInt8)) : Option (Int × Unit) :=
  (Option.bind (F_ref07_Item_l10 N N p0 (1 : Int)) fun o15 => (sumCase o15 (fun a16 => (some (a16, ()))) (fun b17 => (some ((0 : Int), ())))))
def F_ref07_Item_ct (N : Nat) : List (FuncId × CF) := [(42, conF [(.int .i64)] [.str] fun x => F_ref07_ItemName N x.1), (41, conF [.str] [.str] fun x => F_ref01_Upper N x.1), (12, conF [] [.bool] fun _ => some (true, ()))]
theorem F_ref07_Item_ok (N : Nat) : CtOK Tryz.prog glA (tabC (F_ref07_Item_ct N)) hkA := ctok hkok rfl ⟨F_ref07_ItemName_c N, F_ref01_Upper_c N, yes_sound rfl, trivial⟩
def F_ref07_Item_l10_q (N : Nat) : Pl := .auto
theorem F_ref07_Item_l10_r (N : Nat) {R : Type} (x6 : List UInt8) (x7 : Int) (rec_ : List Lf → Option R) (out : Nat → List Lf → Option R) :
    round Tryz.prog glA (tabC (F_ref07_Item_ct N)) 1500 (F_ref07_Item_l10_q N) F_ref07_Item_l10_p F_ref07_Item_l10_o (roundOf Tryz.f18 [1, 0, 1, 2]) [.s x6, .i x7] rec_ out = F_ref07_Item_l10_t N x6 x7 (fun x6 x7 => rec_ [.s x6, .i x7]) (fun v0 => out 0 [.i v0]) (fun _ => out 1 []) := by kernel_rfl
theorem F_ref07_Item_l10_rel {rd : RD} {O : Type} {OUT : O → Nat × List Lf} (N : Nat) (x6 : List UInt8) (x7 : Int) (r1 : (List UInt8) → (Int) → Option O) (r2 : (List UInt8) → (Int) → Option (List Lf ⊕ (Nat × List Lf))) (p0 : (Int) → Option O) (q0 : (Int) → Option (List Lf ⊕ (Nat × List Lf))) (p1 : Unit → Option O) (q1 : Unit → Option (List Lf ⊕ (Nat × List Lf))) (hr : ∀ x6 x7, Rel rd OUT (r1 x6 x7) (r2 x6 x7)) (h0 : ∀ v0, Rel rd OUT (p0 v0) (q0 v0)) (h1 : ∀ v, Rel rd OUT (p1 v) (q1 v)) :
    Rel rd OUT (F_ref07_Item_l10_t N x6 x7 r1 p0 p1) (F_ref07_Item_l10_t N x6 x7 r2 q0 q1) := by
  unfold F_ref07_Item_l10_t
  exact (Rel.cond (Rel.bind fun y11 => (Rel.bind fun y12 => (Rel.cond (h0 _) (hr _ _)))) (h1 _))
theorem F_ref07_Item_l10_it (N : Nat) : ∀ (m : Nat) (x6 : List UInt8) (x7 : Int) (o : ((Int)) ⊕ (Unit)), F_ref07_Item_l10 N m x6 x7 = some o → It (round1 Tryz.prog glA (tabC (F_ref07_Item_ct N)) 1500 (F_ref07_Item_l10_q N) F_ref07_Item_l10_p F_ref07_Item_l10_o (roundOf Tryz.f18 [1, 0, 1, 2])) [.s x6, .i x7] (F_ref07_Item_l10_O o)
  | 0, _, _, o, h => by cases h
  | m + 1, x6, x7, o, h => Rel.it2 (F_ref07_Item_l10_r N (R := List Lf ⊕ (Nat × List Lf)) x6 x7 (fun l => some (.inl l)) (fun k os => some (.inr (k, os)))) (F_ref07_Item_l10_rel N x6 x7 _ _ _ _ _ _ (fun x6 x7 => Rel.rec_ fun o h => F_ref07_Item_l10_it N m x6 x7 o h) (fun _ => Rel.out rfl) (fun _ => Rel.out rfl)) h
theorem F_ref07_Item_l10_sp (N : Nat) : LoopSpec (round1 Tryz.prog glA (tabC (F_ref07_Item_ct N)) 1500 (F_ref07_Item_l10_q N) F_ref07_Item_l10_p F_ref07_Item_l10_o (roundOf Tryz.f18 [1, 0, 1, 2])) (F_ref07_Item_l10_S N) := by
  intro R ls κ r h
  unfold F_ref07_Item_l10_S at h
  split at h
  · obtain ⟨x6, e0, g0⟩ := bindS h
    obtain ⟨x7, e1, g1⟩ := bindS g0
    cases getS_s e0
    cases getI_s e1
    obtain ⟨o, h1, h2⟩ := bindS g1
    rcases o with o | o
    · exact ⟨_, _, F_ref07_Item_l10_it N N _ _ _ h1, h2⟩
    · exact ⟨_, _, F_ref07_Item_l10_it N N _ _ _ h1, h2⟩
  · cases h
theorem F_ref07_Item_l10_c (N : Nat) : SndC Tryz.prog glA hkA (.loop (roundOf Tryz.f18 [1, 0, 1, 2])) (byLoop [] F_ref07_Item_l10_p F_ref07_Item_l10_o (F_ref07_Item_l10_S N)) :=
  loop_sound (F_ref07_Item_ok N) (plok_of (show loopsOf Tryz.prog (F_ref07_Item_l10_q N) (roundOf Tryz.f18 [1, 0, 1, 2]) = some [] by kernel_rfl) trivial) (F_ref07_Item_l10_sp N)
def F_ref07_Item_pl (N : Nat) : Pl := (.two .auto (.two (.two .auto (.one (.by_ (byLoop [] F_ref07_Item_l10_p F_ref07_Item_l10_o (F_ref07_Item_l10_S N))))) .auto))
theorem F_ref07_Item_s (N : Nat) (x : El (tupU [.str])) : scall Tryz.prog glA (tabC (F_ref07_Item_ct N)) 1500 (F_ref07_Item_pl N) 18 (argsOf [.str] x) [] (retOf [(.int .i64)]) = F_ref07_Item N x.1 := by kernel_rfl
theorem F_ref07_Item_k (N : Nat) : ∀ fn b, Tryz.prog.funcs[18]? = some fn → fn.body = some b → PlOK Tryz.prog glA hkA (F_ref07_Item_pl N) b :=
  plok_fn Tryz.func18 (show (match Tryz.f18.body with | some b => loopsOf Tryz.prog (F_ref07_Item_pl N) b | none => none) = some [((roundOf Tryz.f18 [1, 0, 1, 2]), byLoop [] F_ref07_Item_l10_p F_ref07_Item_l10_o (F_ref07_Item_l10_S N))] by kernel_rfl) ⟨F_ref07_Item_l10_c N, trivial⟩
theorem F_ref07_Item_c (N : Nat) : SndF Tryz.prog glA hkA 18 (conF [.str] [(.int .i64)] fun x => F_ref07_Item N x.1) := con_sound (F_ref07_Item_ok N) (F_ref07_Item_k N) (F_ref07_Item_s N)
-- cubbyhole/cubbyholelaw07.CommandNames
def F_law07_CommandNames (N : Nat) (p0 : Int) (p1 : (List UInt8)) : Option (Bool × Unit) :=
  (cond (decide ((300 : Int) < (((List.length p1) : Nat) : Int))) (Option.bind (some (true, ())) fun y1 => (some (y1.1, ()))) (Option.bind (F_command_Kind N p1) fun y2 => (Option.bind (F_command_Item N p1) fun y3 => (Option.bind (F_command_Verb N p0) fun y4 => (Option.bind (F_command_Kind N y4.1) fun y5 => (Option.bind (some (true, ())) fun y6 => (cond y6.1 (Option.bind (F_command_Verb N p0) fun y7 => (Option.bind (F_ref07_Verb N p0) fun y8 => (cond (y7.1 == y8.1) (Option.bind (F_ref07_Kind N p1) fun y9 => (cond (y2.1 == y9.1) (cond (y2.2.1 == (decide ((0 : Int) < y2.1))) (Option.bind (F_ref07_Item N p1) fun y10 => (cond (y3.1 == y10.1) (cond (y3.2.1 == (decide ((0 : Int) < y3.1))) (cond (decide ((1 : Int) ≤ p0)) (cond (y5.2.1 == (decide (p0 ≤ (8 : Int)))) (cond (!y5.2.1) (some (true, ())) (some ((y5.1 == p0), ()))) (some (false, ()))) (cond (y5.2.1 == false) (cond (!y5.2.1) (some (true, ())) (some ((y5.1 == p0), ()))) (some (false, ())))) (some (false, ()))) (some (false, ())))) (some (false, ()))) (some (false, ())))) (some (false, ()))))) (some (false, ())))))))))
def F_law07_CommandNames_ct (N : Nat) : List (FuncId × CF) := [(13, conF [.str] [(.int .i64), .bool] fun x => F_command_Kind N x.1), (14, conF [.str] [(.int .i64), .bool] fun x => F_command_Item N x.1), (15, conF [(.int .i64)] [.str] fun x => F_command_Verb N x.1), (16, conF [(.int .i64)] [.str] fun x => F_ref07_Verb N x.1), (17, conF [.str] [(.int .i64)] fun x => F_ref07_Kind N x.1), (18, conF [.str] [(.int .i64)] fun x => F_ref07_Item N x.1), (12, conF [] [.bool] fun _ => some (true, ()))]
theorem F_law07_CommandNames_ok (N : Nat) : CtOK Tryz.prog glA (tabC (F_law07_CommandNames_ct N)) hkA := ctok hkok rfl ⟨F_command_Kind_c N, F_command_Item_c N, F_command_Verb_c N, F_ref07_Verb_c N, F_ref07_Kind_c N, F_ref07_Item_c N, yes_sound rfl, trivial⟩
def F_law07_CommandNames_pl (N : Nat) : Pl := .auto
theorem F_law07_CommandNames_s (N : Nat) (x : El (tupU [(.int .i64), .str])) : scall Tryz.prog glA (tabC (F_law07_CommandNames_ct N)) 1500 (F_law07_CommandNames_pl N) 4 (argsOf [(.int .i64), .str] x) [] (retOf [.bool]) = F_law07_CommandNames N x.1 x.2.1 := by kernel_rfl
theorem F_law07_CommandNames_k (N : Nat) : ∀ fn b, Tryz.prog.funcs[4]? = some fn → fn.body = some b → PlOK Tryz.prog glA hkA (F_law07_CommandNames_pl N) b :=
  plok_fn Tryz.func4 (show (match Tryz.f4.body with | some b => loopsOf Tryz.prog (F_law07_CommandNames_pl N) b | none => none) = some [] by kernel_rfl) trivial
theorem F_law07_CommandNames_c (N : Nat) : SndF Tryz.prog glA hkA 4 (conF [(.int .i64), .str] [.bool] fun x => F_law07_CommandNames N x.1 x.2.1) := con_sound (F_law07_CommandNames_ok N) (F_law07_CommandNames_k N) (F_law07_CommandNames_s N)
end Go.Proofs.YtnoodkgfjdajgaaGreatDoor

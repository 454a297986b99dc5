/- The evaluator once more, for the kernel: operations, regions, code. What the kernel's evaluator gives, the evaluator gives: operations. -/
import Derived.Test.YtjnimfnelacceaaGreatDoorLot30
set_option linter.unusedSimpArgs false
set_option linter.unusedVariables false
namespace Go.Proofs.YtjnimfnelacceaaGreatDoor
open Go.RowKit
noncomputable section


/-! ### Looking at a value -/
def vPtr {β : Type} (k : Nat → Nat → Option β) (x : Value) : Option β := Value.casesOn (motive_1 := fun _ => Option β) x (fun _ => none) (fun _ _ => none) (fun _ _ => none) (fun _ _ _ => none) (fun _ => none)
  (fun a => Option.rec (motive := fun _ => Option β) none (fun ad => Addr.rec (motive := fun _ => Option β) (fun b o sp => Option.rec (motive := fun _ => Option β) (k b o) (fun _ => none) sp) ad) a)
  (fun _ _ _ => none) (fun _ => none) (fun _ => none) (fun _ _ _ => none) none (fun _ _ => none) none (fun _ => none) (fun _ => none)
def vSl {β : Type} (k : Nat → Nat → Nat → Option β) (x : Value) : Option β := Value.casesOn (motive_1 := fun _ => Option β) x (fun _ => none) (fun _ _ => none) (fun _ _ => none) (fun _ _ _ => none) (fun _ => none) (fun _ => none)
  (fun a len _ => Option.rec (motive := fun _ => Option β) none (fun ad => Addr.rec (motive := fun _ => Option β) (fun b o sp => Option.rec (motive := fun _ => Option β) (k b o len) (fun _ => none) sp) ad) a)
  (fun _ => none) (fun _ => none) (fun _ _ _ => none) none (fun _ _ => none) none (fun _ => none) (fun _ => none)
def vInt {β : Type} (d : β) (k : IntKind → Int → β) (x : Value) : β := Value.casesOn (motive_1 := fun _ => β) x (fun _ => d) (fun kk i => k kk i) (fun _ _ => d) (fun _ _ _ => d) (fun _ => d) (fun _ => d) (fun _ _ _ => d)
  (fun _ => d) (fun _ => d) (fun _ _ _ => d) d (fun _ _ => d) d (fun _ => d) (fun _ => d)
def vStr {β : Type} (d : β) (k : ByteArray → β) (x : Value) : β := Value.casesOn (motive_1 := fun _ => β) x (fun _ => d) (fun _ _ => d) (fun _ _ => d) (fun _ _ _ => d) (fun s => k s) (fun _ => d) (fun _ _ _ => d)
  (fun _ => d) (fun _ => d) (fun _ _ _ => d) d (fun _ _ => d) d (fun _ => d) (fun _ => d)
def vBool {β : Type} (d : β) (k : Bool → β) (x : Value) : β := Value.casesOn (motive_1 := fun _ => β) x (fun b => k b) (fun _ _ => d) (fun _ _ => d) (fun _ _ _ => d) (fun _ => d) (fun _ => d) (fun _ _ _ => d)
  (fun _ => d) (fun _ => d) (fun _ _ _ => d) d (fun _ _ => d) d (fun _ => d) (fun _ => d)
def oCells {β : Type} (k : Array Value → TypeId → Nat × Nat → Option β) (x : Option Obj) : Option β := match x with
  | some (.cells xs e fz) => k xs e fz
  | _ => none
def bre {β : Type} (x y : β) (b : Bool) : β := Bool.rec (motive := fun _ => β) x y b
def ore {β γ : Type} (k : β → Option γ) (x : Option β) : Option γ := Option.rec (motive := fun _ => Option γ) none k x
def pre {β γ δ : Type} (k : β → γ → δ) (x : β × γ) : δ := Prod.rec (motive := fun _ => δ) k x

/-! ### Addresses -/
def foK (P : Program) (t : TypeId) (f : Nat) : Option Nat := match P.underlying t with
  | some (.struct fs) => (match fs[f]? with
    | some fl => if sizeC P fl.type ≠ some 0 ∧ sizeC P fl.type ≠ none then some fl.offset else none
    | none => none)
  | _ => none
def foR (k : Nat) (x : Value) : Option Value := vPtr (fun b o => some (.pointer (some ⟨b, Nat.add o k, none⟩))) x
def foA (k : Option Nat) (x : Value) : Option Value := match k with
  | some k => foR k x
  | none => none
theorem fieldAddr_cases (P : Program) (t : TypeId) (x : Value) (f : Nat) : fieldAddrC P t x f = foA (foK P t f) x := by
  have np : ∀ x, (∀ k, foR k x = none) → none = foA (foK P t f) x := fun x h => by
    rcases foK P t f with _ | k
    · rfl
    · exact (h k).symm
  have dead : ∀ x : Value, (∀ a, x ≠ .pointer (some a)) → fieldAddrC P t x f = none := fun x h => by
    unfold fieldAddrC
    split
    · rename_i a _; exact absurd rfl (h a)
    · rfl
  cases x with
  | pointer a =>
    cases a with
    | none => rw [dead _ (fun a h => by cases h)]; exact np _ (fun _ => rfl)
    | some a =>
      obtain ⟨b, o, sp⟩ := a
      unfold fieldAddrC foK
      rcases P.underlying t with _ | d
      · rfl
      · cases d with
        | struct fs =>
          dsimp only
          rcases fs[f]? with _ | fl
          · rfl
          · dsimp only
            by_cases h : sizeC P fl.type ≠ some 0 ∧ sizeC P fl.type ≠ none
            · rw [if_pos h]
              cases sp with
              | none => rw [if_pos ⟨h.1, h.2, rfl⟩]; rfl
              | some sp => rw [if_neg (fun hh => by cases hh.2.2)]; rfl
            · rw [if_neg h, if_neg (fun hh => h ⟨hh.1, hh.2.1⟩)]; rfl
        | _ => rfl
  | _ => rw [dead _ (fun a h => by cases h)]; exact np _ (fun _ => rfl)
inductive IxK where
  | no
  | sl (n : Nat)
  | ar (len n : Nat)
def ixK (P : Program) (t : TypeId) : IxK := match P.underlying t with
  | some (.slice e) => (match sizeC P e with
    | some n => .sl n
    | none => .no)
  | some (.array len e) => (match sizeC P e with
    | some n => .ar len n
    | none => .no)
  | _ => .no
def ixAt (b o : Nat) (len n : Nat) (i : Value) : Option Value := vInt none (fun _ k => Int.rec (motive := fun _ => Option Value)
    (fun k => bre none (some (.pointer (some ⟨b, Nat.add o (Nat.mul k n), none⟩))) (Nat.ble (Nat.succ k) len)) (fun _ => none) k) i
def ixSl (n : Nat) (x i : Value) : Option Value := vSl (fun b o len => ixAt b o len n i) x
def ixAr (len n : Nat) (x i : Value) : Option Value := vPtr (fun b o => ixAt b o len n i) x
def ixA (k : IxK) (x i : Value) : Option Value := match k with
  | .no => none
  | .sl n => ixSl n x i
  | .ar len n => ixAr len n x i
theorem ixAt_eq (b o len n : Nat) (k : IntKind) (i : Int) : ixAt b o len n (.int k i) = if 0 ≤ i ∧ i < len ∧ (none : Option Nat) = none then some (.pointer (some ⟨b, o + i.toNat * n, none⟩)) else none := by
  cases i with
  | ofNat k' =>
    show Bool.rec (motive := fun _ => Option Value) none (some (.pointer (some ⟨b, o + k' * n, none⟩))) (Nat.ble (Nat.succ k') len) = _
    by_cases h : k' < len
    · rw [Nat.ble_eq_true_of_le h, if_pos ⟨Int.natCast_nonneg _, Int.ofNat_lt.2 h, rfl⟩]; rfl
    · have : Nat.ble (Nat.succ k') len = false := by
        cases hb : Nat.ble (Nat.succ k') len with
        | false => rfl
        | true => exact absurd (Nat.le_of_ble_eq_true hb) h
      rw [this, if_neg]
      rintro ⟨_, h2, _⟩
      exact h (Int.ofNat_lt.1 h2)
  | negSucc k' =>
    rw [if_neg]
    · rfl
    · rintro ⟨h, _⟩
      exact absurd h (by simp)

/-! ### Binary operations -/
def eqK (k k' : IntKind) : Bool := match k, k' with
  | .i64, .i64 => true
  | k, k' => decide (k = k')
def addI (a b : Int) : Int := match a, b with
  | .ofNat m, .ofNat n => .ofNat (Nat.add m n)
  | a, b => a + b
def wrapR (k : IntKind) (n : Int) : Int := match k, n with
  | .i64, .ofNat m => Bool.rec (motive := fun _ => Int) (IntKind.wrap .i64 (.ofNat m)) (.ofNat m) (Nat.ble m 9223372036854775807)
  | k, n => k.wrap n
def eqI (a b : Int) : Bool := match a, b with
  | .ofNat m, .ofNat n => Nat.beq m n
  | .negSucc m, .negSucc n => Nat.beq m n
  | _, _ => false
def ltI (a b : Int) : Bool := match a, b with
  | .ofNat m, .ofNat n => Nat.ble (Nat.succ m) n
  | .negSucc _, .ofNat _ => true
  | .ofNat _, .negSucc _ => false
  | .negSucc m, .negSucc n => Nat.ble (Nat.succ n) m
def notR (b : Bool) : Bool := Bool.rec (motive := fun _ => Bool) true false b
structure Ik where
  run : IntKind → Int → Int → Option Value
def inK : BinOp → Ik
  | .add => ⟨fun k a b => some (.int k (wrapR k (addI a b)))⟩
  | .eql => ⟨fun _ a b => some (.bool (eqI a b))⟩
  | .neq => ⟨fun _ a b => some (.bool (notR (eqI a b)))⟩
  | .lss => ⟨fun _ a b => some (.bool (ltI a b))⟩
  | .leq => ⟨fun _ a b => some (.bool (notR (ltI b a)))⟩
  | .gtr => ⟨fun _ a b => some (.bool (ltI b a))⟩
  | .geq => ⟨fun _ a b => some (.bool (notR (ltI a b)))⟩
  | op => ⟨fun k a b => intC op k a b⟩
structure Sk where
  run : List UInt8 → List UInt8 → Option Value
def stK : BinOp → Sk
  | .eql => ⟨fun a b => some (.bool (eqB a b))⟩
  | .neq => ⟨fun a b => some (.bool (notR (eqB a b)))⟩
  | op => ⟨fun a b => strC op a b⟩
def binR (P : Program) (op : BinOp) (t : TypeId) (x y : Value) (yo : Operand) : Option Value :=
  vInt (vStr (binAnyC P op t x y yo) (fun a => vStr (binAnyC P op t x y yo) (fun b => (stK op).run a.data.toList b.data.toList) y) x)
    (fun k a => vInt (binAnyC P op t x y yo) (fun k' b => bre none ((inK op).run k a b) (eqK k k')) y) x

/-! ### Operands -/
def evE (n : Nat) : Operand → Ge
  | .tmp t => geR n t
  | .const v => ⟨fun _ => v⟩
  | .global g => ⟨fun _ => .pointer (some ⟨g, 0, none⟩)⟩
  | .func f => ⟨fun _ => .func (.func f) #[] #[]⟩
def evsE (n : Nat) (e : Ev12) (x : Operand) : Value := (evE n x).run e

/-! ### One operation -/
inductive Cm where
  | tot (f : Ev12 → Value)
  | par (f : Ev12 → Fw → Option Value)
  | mem (f : Ev12 → Fw → Option (Value × Fw))
def newR (e : TypeId) (cells : Array Value) (F : Fw) : Option (Value × Fw) := pushR F (.cells cells e) fun n => .pointer (some ⟨n, 0, none⟩)
def ld1R (x : Value) (F : Fw) : Option Value := vPtr (fun b o => oCells (fun xs _ _ => getOR xs.toList o) (rdR F b)) x
def ldNR (n : Nat) (x : Value) (F : Fw) : Option Value := vPtr (fun b o => oCells (fun xs _ _ => aggO (takeAtR xs.toList o n)) (rdR F b)) x
def unR (F : Fw) : Option Fw → Option (Value × Fw) := ore fun F => some (undef, F)
def pickR (c a b : Value) : Option Value := vBool none (fun c => some (bre b a c)) c
def notV (x : Value) : Option Value := vBool none (fun c => some (.bool (notR c))) x
def cmE (P : Program) (B n : Nat) : Op → Cm
  | .move x => .tot (evE n x).run
  | .assign x => .tot (evE n x).run
  | .pick x y z => .par fun e _ => pickR ((evE n x).run e) ((evE n y).run e) ((evE n z).run e)
  | .nilCheck x => .par fun e _ => nilCheckC ((evE n x).run e)
  | .binOp op t x y _ => .par fun e _ => binR P op t ((evE n x).run e) ((evE n y).run e) y
  | .unOp .not _ x => .par fun e _ => notV ((evE n x).run e)
  | .fieldAddr t x f => (match foK P t f with
    | some k => .par fun e _ => foR k ((evE n x).run e)
    | none => .par fun _ _ => none)
  | .indexAddr t x i => (match ixK P t with
    | .sl m => .par fun e _ => ixSl m ((evE n x).run e) ((evE n i).run e)
    | .ar len m => .par fun e _ => ixAr len m ((evE n x).run e) ((evE n i).run e)
    | .no => .par fun _ _ => none)
  | .alloc t => (match zeroC P t with
    | some z => .mem fun _ F => newR t z.cells F
    | none => .par fun _ _ => none)
  | .box t x => .mem fun e F => newR t ((evE n x).run e).cells F
  | .load t x => (match ldK P t with
    | some none => .par fun e F => ld1R ((evE n x).run e) F
    | some (some m) => .par fun e F => ldNR m ((evE n x).run e) F
    | none => .par fun _ _ => none)
  | .store t x v => (match stoK P t with
    | some m => .mem fun e F => unR F (stoR B m ((evE n x).run e) (cellsL ((evE n v).run e)) F)
    | none => .par fun _ _ => none)
  | op => .mem fun e F => doF P B (evsE n e) op F

/-! ### One step -/
abbrev OutO := Option (Out × Ev12 × Fw)
def putE : Option Tmp → Pu
  | some d => puR d
  | none => ⟨fun _ e => e⟩
structure St where
  run : CallF → Ev12 → Fw → (Ev12 → Fw → OutO) → OutO
structure Ar where
  run : Ev12 → List Value
def arE (n : Nat) (l : List Operand) : Ar := List.rec (motive := fun _ => Ar) ⟨fun _ => []⟩ (fun x _ ih => ⟨fun e => (evE n x).run e :: ih.run e⟩) l
def backE (k : Value → Fw → OutO) (e : Ev12) (r : Option (Res × Fw)) : OutO := ore (pre fun q F1 => Res.rec (motive := fun _ => OutO) (fun v => k v F1) (fun ch => some (.pan ch, e, F1)) q) r
def callE (ent : FuncId → Bool) (call : CallF) (f : Value) (args : List Value) (F : Fw) : Option (Res × Fw) := match f with
  | .func (.func g) first cap => bre none (call g (appR first.toList (appR args cap.toList)) F) (ent g)
  | _ => none
def defE (d : Option Tmp) (f : Value) (args : List Value) (e : Ev12) (F : Fw) (k : Ev12 → Fw → OutO) : OutO := match f with
  | .func (.func g) first cap => k ((putE d).run undef (withDs { target := .fn (.func g) cap, args := ⟨appR first.toList args⟩ } e)) F
  | _ => none
def panE (x : Value) (e : Ev12) (F : Fw) : OutO := match x with
  | .iface t v => some (.pan [{ v := .iface t v, recovered := false }], e, F)
  | _ => none
def cmSt (dst : Option Tmp) : Cm → St
  | .tot f => ⟨fun _ e F k => k ((putE dst).run (f e) e) F⟩
  | .par f => ⟨fun _ e F k => ore (fun v => k ((putE dst).run v e) F) (f e F)⟩
  | .mem f => ⟨fun _ e F k => ore (pre fun v F1 => k ((putE dst).run v e) F1) (f e F)⟩
def stE (P : Program) (B n : Nat) (ent : FuncId → Bool) (o : Oper) : St := match o.op with
  | .call k => (match k.callee with
    | .value f => ⟨fun call e F kk => backE (fun v F1 => kk ((putE o.dst).run v e) F1) e (callE ent call ((evE n f).run e) ((arE n k.args.toList).run e) F)⟩
    | _ => cmSt o.dst (cmE P B n o.op))
  | .defer k => (match k.callee with
    | .value f => ⟨fun _ e F kk => defE o.dst ((evE n f).run e) ((arE n k.args.toList).run e) e F kk⟩
    | _ => ⟨fun _ _ _ _ => none⟩)
  | .panic x => ⟨fun _ e F _ => panE ((evE n x).run e) e F⟩
  | _ => cmSt o.dst (cmE P B n o.op)

/-! ### Guards -/
inductive Wk where
  | yes
  | no
  | slot (b : Bool) (g : Ge)
def isBool (b : Bool) (v : Value) : Bool := vBool false (fun c => bre (notR b) b c) v
def waE (n : Nat) (ops : Array Oper) (o : Oper) : Wk := match o.guard with
  | none => .yes
  | some (j, b) => (match (ops[j]?).bind (·.dst) with
    | some t => .slot b (geR n t)
    | none => .no)
def onWk {β : Type} (w : Wk) (e : Ev12) (x y : β) : β := match w with
  | .yes => y
  | .no => x
  | .slot b g => bre x y (isBool b (g.run e))

/-! ### Regions -/
structure Rg where
  run : CallF → Ev12 → Fw → OutO
def guardE (x y : Rg) : Wk → Rg
  | .yes => y
  | .no => x
  | .slot b g => ⟨fun call e F => bre (x.run call e F) (y.run call e F) (isBool b (g.run e))⟩
def opsE (P : Program) (B n : Nat) (ent : FuncId → Bool) (ops : Array Oper) (l : List Oper) : Rg :=
  List.rec (motive := fun _ => Rg) ⟨fun _ e F => some (.normal, e, F)⟩ (fun o _ ih =>
    guardE ⟨fun call e F => ih.run call ((putE o.dst).run undef e) F⟩ ⟨fun call e F => (stE P B n ent o).run call e F (ih.run call)⟩ (waE n ops o)) l
/-- Reading only. -/
def isRead : Op → Bool
  | .load .. | .lookup .. => true
  | .slice _ _ (some _) none none => true
  | .field .. | .build .. | .slice .. => false
  | o => isFloat o
structure Cv where
  run : Ev12 → Fw → Option Value
def cmV : Cm → Cv
  | .tot f => ⟨fun e _ => some (f e)⟩
  | .par f => ⟨f⟩
  | .mem f => ⟨fun e F => ore (pre fun v _ => some v) (f e F)⟩
structure Sl where
  run : Ev12 → Fw → Option Ev12
def guardS (x y : Sl) : Wk → Sl
  | .yes => y
  | .no => x
  | .slot b g => ⟨fun e F => bre (x.run e F) (y.run e F) (isBool b (g.run e))⟩
def stillE (P : Program) (B n : Nat) (ops : Array Oper) (l : List Oper) : Sl :=
  List.rec (motive := fun _ => Sl) ⟨fun e _ => some e⟩ (fun o _ ih =>
    guardS ⟨fun e F => ih.run ((putE o.dst).run undef e) F⟩
      (bre ⟨fun _ _ => none⟩ ⟨fun e F => ore (fun v => ih.run ((putE o.dst).run v e) F) ((cmV (cmE P B n o.op)).run e F)⟩ (isRead o.op)) (waE n ops o)) l
structure Sm where
  run : Ev12 → Fw → Bool
def beqO (v : Value) (r : Option Value) : Bool := Option.rec (motive := fun _ => Bool) false (fun u => beqV 9 u v) r
def guardM (x y : Sm) : Wk → Sm
  | .yes => y
  | .no => x
  | .slot b g => ⟨fun e F => bre (x.run e F) (y.run e F) (isBool b (g.run e))⟩
def smE (P : Program) (B n : Nat) (ops : Array Oper) (j : Nat) : Sm := match ops[j]? with
  | some o => (match o.dst with
    | some t => guardM ⟨fun e _ => beqV 9 undef ((geR n t).run e)⟩ ⟨fun e F => beqO ((geR n t).run e) ((cmV (cmE P B n o.op)).run e F)⟩ (waE n ops o)
    | none => ⟨fun _ _ => false⟩)
  | none => ⟨fun _ _ => false⟩
def smsE (P : Program) (B n : Nat) (ops : Array Oper) (l : List Nat) : Sm :=
  List.rec (motive := fun _ => Sm) ⟨fun _ _ => true⟩ (fun j _ ih => ⟨fun e F => bre false (ih.run e F) ((smE P B n ops j).run e F)⟩) l
def floatE (P : Program) (B n : Nat) (ent : FuncId → Bool) (ops : Array Oper) (l : List Nat) : List Nat → Rg :=
  List.rec (motive := fun _ => List Nat → Rg) (fun _ => ⟨fun _ e F => some (.normal, e, F)⟩) (fun j _ ih pend => match ops[j]? with
    | some o => bre
        (guardE ⟨fun call e F => bre none ((ih (pend.filter fun k => !bindsOn o k)).run call ((putE o.dst).run undef e) F) ((smsE P B n ops (pend.filter fun k => !bindsOn o k)).run ((putE o.dst).run undef e) F)⟩
          ⟨fun call e F => (stE P B n ent o).run call e F fun e1 F1 => bre none ((ih (pend.filter fun k => !bindsOn o k)).run call e1 F1) ((smsE P B n ops (pend.filter fun k => !bindsOn o k)).run e1 F1)⟩ (waE n ops o))
        (guardE ⟨fun call e F => (ih (j :: pend)).run call ((putE o.dst).run undef e) F⟩
          ⟨fun call e F => ore (fun v => (ih (j :: pend)).run call ((putE o.dst).run v e) F) ((cmV (cmE P B n o.op)).run e F)⟩ (waE n ops o)) (isFl ops o)
    | none => ⟨fun _ _ _ => none⟩) l
def ofFa (n : Nat) (a : Fa) : Option Ev12 := bre none (some (setDs a.defers (layR a.tmps 0 unE))) (Nat.beq (lenR a.tmps) n)
def faE (n : Nat) (e : Ev12) : Fa := ⟨listE n e, e.ds⟩
def didE (n : Nat) (r : Option Did) : OutO := match r with
  | some d => ore (fun e => some (d.out, e, d.F)) (ofFa n d.a)
  | none => none
def regE (P : Program) (B n : Nat) (ent : FuncId → Bool) (plans : Nat → Option RPlan) (id : Nat) (ops : Array Oper) (draw : Bool) : Rg := match draw with
  | false => opsE P B n ent ops ops.toList
  | true => (match plans id with
    | some .still => ⟨fun _ e F => ore (fun e1 => some (.normal, e1, F)) ((stillE P B n ops ops.toList).run e F)⟩
    | some (.tail m) => ⟨fun call e F => ore (fun e1 => (opsE P B n ent ops (ops.toList.drop m)).run call e1 F) ((stillE P B n ops (ops.toList.take m)).run e F)⟩
    | some (.float l) => floatE P B n ent ops l []
    | some (.tree p) => ⟨fun call e F => didE n (planF P B ent call ops p (faE n e) F)⟩
    | none => ⟨fun _ _ _ => none⟩)

/-! ### Code -/
structure Cd where
  run : CallF → Nat → Ev12 → Fw → OutO
def onR (k : Ev12 → Fw → OutO) (r : OutO) : OutO := ore (pre fun o q => pre (fun e1 F1 => Out.rec (motive := fun _ => OutO) (k e1 F1) (fun i => some (.exit i, e1, F1)) (some (.ret, e1, F1)) (fun ch => some (.pan ch, e1, F1)) o) q) r
def outR (id : Nat) (r : OutO) : OutO := ore (pre fun o q => pre (fun e1 F1 => Out.rec (motive := fun _ => OutO) (some (.normal, e1, F1)) (fun i => bre (some (.exit i, e1, F1)) (some (.normal, e1, F1)) (Nat.beq i id)) (some (.ret, e1, F1)) (fun ch => some (.pan ch, e1, F1)) o) q) r
def fuelR (n : Nat) (f : Nat → OutO) : OutO := Nat.rec (motive := fun _ => OutO) none (fun n _ => f n) n
def codeE (P : Program) (B m : Nat) (ent : FuncId → Bool) (plans : Nat → Option RPlan) (code : Code) : Cd :=
  Code.rec (motive := fun _ => Cd)
    ⟨fun _ n e F => fuelR n fun _ => some (.normal, e, F)⟩
    (fun id ops draw => ⟨fun call n e F => fuelR n fun _ => (regE P B m ent plans id ops draw).run call e F⟩)
    (fun _ _ x y => ⟨fun call n e F => fuelR n fun n => onR (y.run call n) (x.run call n e F)⟩)
    (fun k _ _ x y => ⟨fun call n e F => fuelR n fun n => vBool none (fun b => bre (y.run call n e F) (x.run call n e F) b) ((evE m k).run e)⟩)
    (fun id _ x => ⟨fun call n e F => fuelR n fun n => outR id (x.run call n e F)⟩)
    (fun _ x => ⟨fun call n => Nat.rec (motive := fun _ => Ev12 → Fw → OutO) (fun _ _ => none) (fun n ih e F => onR ih (x.run call n e F)) n⟩)
    (fun _ _ _ _ _ _ => ⟨fun _ _ _ _ => none⟩)
    (fun id => ⟨fun _ n e F => fuelR n fun _ => some (.exit id, e, F)⟩)
    (fun _ x => ⟨fun call n e F => fuelR n fun n => x.run call n e F⟩)
    (fun _ => ⟨fun _ n e F => fuelR n fun _ => some (.normal, e, F)⟩)
    (fun _ => ⟨fun _ _ _ _ => none⟩)
    ⟨fun _ n e F => fuelR n fun _ => some (.ret, e, F)⟩
    (fun _ => ⟨fun _ _ _ _ => none⟩) code

/-! ### Functions -/
structure Oc where
  run : List Value → Fw → Option (Res × Fw)
structure Rs where
  run : Ev12 → Fw → Option (List Value)
def rsE (P : Program) (n : Nat) (l : List ResultVar) : Rs :=
  List.rec (motive := fun _ => Rs) ⟨fun _ _ => some []⟩ (fun x _ ih => ResultVar.rec (motive := fun _ => Rs)
    (fun t => ⟨fun e F => ore (fun vs => some ((geR n t).run e :: vs)) (ih.run e F)⟩)
    (fun x t => match ldK P t with
      | some none => ⟨fun e F => ore (fun v => ore (fun vs => some (v :: vs)) (ih.run e F)) (ld1R ((geR n x).run e) F)⟩
      | some (some m) => ⟨fun e F => ore (fun v => ore (fun vs => some (v :: vs)) (ih.run e F)) (ldNR m ((geR n x).run e) F)⟩
      | none => ⟨fun _ _ => none⟩) x) l
/-- A function's body, from its arguments on. -/
structure Bd where
  run : CallF → Nat → List Value → Fw → OutO
def bdE (P : Program) (B : Nat) (ent : FuncId → Bool) (plans : Nat → Option RPlan) (n : Nat) (code : Code) : Bd :=
  bre ⟨fun _ _ _ _ => none⟩ ⟨fun call fuel args F => bre none ((codeE P B n ent plans code).run call fuel (layR args 0 unE) F) (Nat.ble (lenR args) n)⟩ (Nat.ble n 289)
def emptyE (e : Ev12) (r : Option Fw) : Option Fw := List.rec (motive := fun _ => Option Fw) r (fun _ _ _ => none) e.ds
def quietE (r : OutO) : Option Fw := ore (pre fun o q => pre (fun e1 F1 => Out.rec (motive := fun _ => Option Fw) (emptyE e1 (some F1)) (fun _ => none) (emptyE e1 (some F1)) (fun _ => none) o) q) r
structure De where
  plain : CallF → Nat → List Value → Fw → Option Fw
  reco : CallF → Nat → List Value → Option (List PanicEntry) → Fw → Option (Fw × Option (List PanicEntry))
def recRun (P : Program) (B n : Nat) (ent : FuncId → Bool) (plans : Nat → Option RPlan) (o : Oper) (rest : Code) (call : CallF) (fuel : Nat) (args : List Value) (m : Option (List PanicEntry)) (F : Fw) : Option (Fw × Option (List PanicEntry)) :=
  ore (pre fun v m1 => ore (fun F1 => some (F1, m1)) (quietE ((codeE P B n ent plans rest).run call fuel ((putE o.dst).run v (layR args 0 unE)) F))) (recV m)
def deE (P : Program) (B : Nat) (ent : FuncId → Bool) (plans : FuncId → Nat → Option RPlan) (f : FuncId) : De := match P.funcs[f]? with
  | some fn => (match fn.body with
    | some code => bre ⟨fun _ _ _ _ => none, fun _ _ _ _ _ => none⟩
        ⟨fun call fuel args F => quietE ((bdE P B ent (plans f) fn.ntmps code).run call fuel args F),
          match recOp code with
          | some (o, rest) => bre (fun _ _ _ _ _ => none) (fun call fuel args m F => bre none (recRun P B fn.ntmps ent (plans f) o rest call fuel args m F) (Nat.ble (lenR args) fn.ntmps)) (Nat.ble fn.ntmps 289)
          | none => fun _ _ _ _ _ => none⟩ fn.results.toList.isEmpty
    | none => ⟨fun _ _ _ _ => none, fun _ _ _ _ _ => none⟩)
  | none => ⟨fun _ _ _ _ => none, fun _ _ _ _ _ => none⟩
def elseO {β : Type} (k : Option β) (r : Option β) : Option β := Option.rec (motive := fun _ => Option β) k (fun x => some x) r
/-- The deferred calls, one after the other. -/
def defsE (P : Program) (B : Nat) (ent : FuncId → Bool) (call : CallF) (plans : FuncId → Nat → Option RPlan) (fuel : Nat) (may : Bool) (fin : Option (List PanicEntry) → Fw → Option (Res × Fw)) (ds : List Deferred) : Option (List PanicEntry) → Fw → Option (Res × Fw) :=
  List.rec (motive := fun _ => Option (List PanicEntry) → Fw → Option (Res × Fw)) fin (fun d _ ih m F => match d.target with
    | .fn (.func g) cap => bre none (elseO (bre none (ore (pre fun F1 m1 => ih m1 F1) ((deE P B ent plans g).reco call fuel (appR d.args.toList cap.toList) m F)) may)
        (ore (fun F1 => ih m F1) ((deE P B ent plans g).plain call fuel (appR d.args.toList cap.toList) F))) (ent g)
    | _ => none) ds
def finE (P : Program) (n : Nat) (res : List ResultVar) (e : Ev12) (m : Option (List PanicEntry)) (F : Fw) : Option (Res × Fw) :=
  Option.rec (motive := fun _ => Option (Res × Fw)) (ore (fun vs => some (.ret (oneOr vs), F)) ((rsE P n res).run e F)) (fun ch => some (.pan ch, F)) m
structure Fn1 where
  run : CallF → Nat → List Value → Fw → Option (Res × Fw)
def endE (nt : Bool) (leave : Bool → Ev12 → Option (List PanicEntry) → Fw → Option (Res × Fw)) (r : OutO) : Option (Res × Fw) :=
  ore (pre fun o q => pre (fun e1 F1 => Out.rec (motive := fun _ => Option (Res × Fw)) (leave true e1 none F1) (fun _ => none) (leave true e1 none F1) (fun ch => bre none (leave nt e1 (some ch) F1) (unrec ch)) o) q) r
def fnE (P : Program) (B : Nat) (ent : FuncId → Bool) (plans : FuncId → Nat → Option RPlan) (f : FuncId) : Fn1 := match P.funcs[f]? with
  | some fn => (match fn.body with
    | some code => ⟨fun call fuel args F => endE (noTree (plans f) code) (fun may e m F => defsE P B ent call plans fuel may (finE P fn.ntmps fn.results.toList e) e.ds m F) ((bdE P B ent (plans f) fn.ntmps code).run call fuel args F)⟩
    | none => ⟨fun _ _ _ _ => none⟩)
  | none => ⟨fun _ _ _ _ => none⟩
def funE (P : Program) (B : Nat) (ent : FuncId → Bool) (plans : FuncId → Nat → Option RPlan) (orc : FuncId → Oc) (fuel : Nat) (n : Nat) : CallF :=
  Nat.rec (motive := fun _ => CallF) (fun _ _ _ => none) (fun _ ih f args F => elseO ((fnE P B ent plans f).run ih fuel args F) ((orc f).run args F)) n
end
end Go.Proofs.YtjnimfnelacceaaGreatDoor
namespace Go.Proofs.YtjnimfnelacceaaGreatDoor
open Go.RowKit

variable {P : Program} {B n : Nat} {ent : FuncId → Bool} {call : CallF}

/-! ### Slots -/
theorem upd2R_big (k : Nat) (h : 17 ≤ k) : upd2R k = ⟨fun _ e => e⟩ := by
  match k, h with
  | k + 17, _ => rfl
theorem puR_big (t : Nat) (h : 289 ≤ t) (v : Value) (e : Ev12) : (puR t).run v e = e := by
  show (upd2R (t / 17)).run ((updR (t % 17)).run v) e = e
  rw [upd2R_big _ (by omega)]
theorem putE_eq (hn : n ≤ 289) (d : Option Tmp) (v : Value) (e : Ev12) : faE n ((putE d).run v e) = (faE n e).put d v := by
  cases d with
  | none => rfl
  | some t =>
    show (⟨listE n ((puR t).run v e), ((puR t).run v e).ds⟩ : Fa) = ⟨setL (listE n e) t v, e.ds⟩
    rcases Nat.lt_or_ge t 289 with h | h
    · rw [listE_put n t e v hn h, puR_ds t h]
    · rw [puR_big t h]
      congr 1
      rw [setL_eq, List.set_eq_of_length_le (by rw [listE_length]; omega)]
theorem evE_eq (e : Ev12) (x : Operand) : (evE n x).run e = (faE n e).eval x := by
  cases x with
  | tmp t => exact geR_eq n t e
  | _ => rfl
theorem evsE_eq (e : Ev12) : evsE n e = (faE n e).eval := funext fun x => evE_eq e x
theorem arE_eq (e : Ev12) (l : List Operand) : (arE n l).run e = l.map (faE n e).eval := by
  induction l with
  | nil => rfl
  | cons x l ih =>
    show (evE n x).run e :: (arE n l).run e = _
    rw [evE_eq, ih]; rfl

/-! ### Operations -/
theorem ixA_dead {k : IxK} {x i : Value} (h1 : ∀ m, ixSl m x i = none) (h2 : ∀ len m, ixAr len m x i = none) : ixA k x i = none := by
  cases k with
  | no => rfl
  | sl m => exact h1 m
  | ar len m => exact h2 len m
theorem indexAddr_dead {P : Program} {t : TypeId} {x i : Value} (h1 : ∀ a len cap k z, x = .slice (some a) len cap → i ≠ .int k z) (h2 : ∀ a k z, x = .pointer (some a) → i ≠ .int k z) : indexAddrC P t x i = none := by
  unfold indexAddrC
  split
  · exact absurd rfl (h1 _ _ _ _ _ rfl)
  · exact absurd rfl (h2 _ _ _ rfl)
  · rfl
theorem indexAddr_cases (P : Program) (t : TypeId) (x i : Value) : indexAddrC P t x i = ixA (ixK P t) x i := by
  by_cases hi : ∃ k z, i = .int k z
  · obtain ⟨kk, k, rfl⟩ := hi
    cases x with
    | slice a len cap =>
      cases a with
      | none => rw [indexAddr_dead (fun _ _ _ _ _ h => by cases h) (fun _ _ _ h => by cases h), ixA_dead (fun _ => rfl) (fun _ _ => rfl)]
      | some a =>
        obtain ⟨b, o, sp⟩ := a
        unfold indexAddrC ixK
        rcases P.underlying t with _ | d
        · rfl
        · cases d with
          | slice e =>
            dsimp only
            rcases sizeC P e with _ | m
            · rfl
            · dsimp only
              cases sp with
              | some sp => exact if_neg (fun hh => by cases hh.2.2)
              | none => exact (ixAt_eq b o len m kk k).symm
          | array alen e =>
            dsimp only
            rcases sizeC P e with _ | m <;> rfl
          | _ => rfl
    | pointer a =>
      cases a with
      | none => rw [indexAddr_dead (fun _ _ _ _ _ h => by cases h) (fun _ _ _ h => by cases h), ixA_dead (fun _ => rfl) (fun _ _ => rfl)]
      | some a =>
        obtain ⟨b, o, sp⟩ := a
        unfold indexAddrC ixK
        rcases P.underlying t with _ | d
        · rfl
        · cases d with
          | slice e =>
            dsimp only
            rcases sizeC P e with _ | m <;> rfl
          | array alen e =>
            dsimp only
            rcases sizeC P e with _ | m
            · rfl
            · dsimp only
              cases sp with
              | some sp => exact if_neg (fun hh => by cases hh.2.2)
              | none => exact (ixAt_eq b o alen m kk k).symm
          | _ => rfl
    | _ => rw [indexAddr_dead (fun _ _ _ _ _ h => by cases h) (fun _ _ _ h => by cases h), ixA_dead (fun _ => rfl) (fun _ _ => rfl)]
  · have hat : ∀ (b o len m : Nat), ixAt b o len m i = none := fun b o len m => by
      cases i with
      | int k z => exact absurd ⟨k, z, rfl⟩ hi
      | _ => rfl
    rw [indexAddr_dead (fun _ _ _ k z _ h => hi ⟨k, z, h⟩) (fun _ k z _ h => hi ⟨k, z, h⟩), ixA_dead]
    · intro m
      cases x with
      | slice a len cap =>
        cases a with
        | none => rfl
        | some a =>
          obtain ⟨b, o, sp⟩ := a
          cases sp with
          | some _ => rfl
          | none => exact hat b o len m
      | _ => rfl
    · intro len m
      cases x with
      | pointer a =>
        cases a with
        | none => rfl
        | some a =>
          obtain ⟨b, o, sp⟩ := a
          cases sp with
          | some _ => rfl
          | none => exact hat b o len m
      | _ => rfl
theorem ble_eq (m k : Nat) : Nat.ble m k = decide (m ≤ k) := by
  by_cases h : m ≤ k
  · rw [Nat.ble_eq_true_of_le h, decide_eq_true h]
  · rw [decide_eq_false h]
    cases hb : Nat.ble m k with
    | false => rfl
    | true => exact absurd (Nat.le_of_ble_eq_true hb) h
theorem beq_eq (m k : Nat) : Nat.beq m k = decide (m = k) := by
  by_cases h : m = k
  · rw [h, Nat.beq_refl, decide_eq_true rfl]
  · rw [decide_eq_false h]
    cases hb : Nat.beq m k with
    | false => rfl
    | true => exact absurd (Nat.eq_of_beq_eq_true hb) h
theorem notR_eq (b : Bool) : notR b = !b := by cases b <;> rfl
theorem bre_eq {β : Type} (x y : β) (b : Bool) : bre x y b = if b = true then y else x := by cases b <;> rfl
theorem eqK_eq (k k' : IntKind) : eqK k k' = decide (k = k') := by cases k <;> cases k' <;> rfl
theorem addI_eq (a b : Int) : addI a b = a + b := by
  cases a <;> cases b <;> rfl
theorem wrapR_eq (k : IntKind) (i : Int) : wrapR k i = k.wrap i := by
  unfold wrapR
  split
  · rename_i m
    rw [ble_eq]
    by_cases h : m ≤ 9223372036854775807
    · rw [decide_eq_true h]
      show Int.ofNat m = _
      have e : ((Int.ofNat m) % 2 ^ 64) = Int.ofNat m := by
        have : (Int.ofNat m : Int) = (m : Int) := rfl
        rw [this]; omega
      unfold IntKind.wrap
      simp only [IntKind.bits, IntKind.signed, e]
      rw [if_neg]
      simp only [Bool.true_and, decide_eq_true_eq]
      have : (Int.ofNat m : Int) = (m : Int) := rfl
      rw [this]
      omega
    · rw [decide_eq_false h]
  · rfl
theorem eqI_eq (a b : Int) : eqI a b = (a == b) := by
  cases a <;> cases b
  · rename_i m k
    show Nat.beq m k = decide (Int.ofNat m = Int.ofNat k)
    rw [beq_eq]
    exact decide_eq_decide.2 (Int.ofNat_inj (m := m) (n := k)).symm
  · rfl
  · rfl
  · rename_i m k
    show Nat.beq m k = decide (Int.negSucc m = Int.negSucc k)
    rw [beq_eq]; simp
theorem ltI_eq (a b : Int) : ltI a b = decide (a < b) := by
  cases a <;> cases b
  · rename_i m k
    show Nat.ble (Nat.succ m) k = _
    rw [ble_eq]
    congr 1
    exact propext (Int.ofNat_lt (n := m) (m := k)).symm
  · rename_i m k
    show false = _
    symm
    rw [decide_eq_false_iff_not]
    have h1 : (Int.ofNat m : Int) = (m : Int) := rfl
    have h2 : (Int.negSucc k : Int) = -((k : Int) + 1) := Int.negSucc_eq k
    rw [h1, h2]; omega
  · rename_i m k
    show true = _
    symm
    rw [decide_eq_true_iff]
    have h1 : (Int.ofNat k : Int) = (k : Int) := rfl
    have h2 : (Int.negSucc m : Int) = -((m : Int) + 1) := Int.negSucc_eq m
    rw [h1, h2]; omega
  · rename_i m k
    show Nat.ble (Nat.succ k) m = _
    rw [ble_eq]
    congr 1
    have h1 : (Int.negSucc k : Int) = -((k : Int) + 1) := Int.negSucc_eq k
    have h2 : (Int.negSucc m : Int) = -((m : Int) + 1) := Int.negSucc_eq m
    rw [h1, h2]
    exact propext ⟨fun h => by omega, fun h => by omega⟩
theorem inK_eq (op : BinOp) (k : IntKind) (a b : Int) : (inK op).run k a b = intC op k a b := by
  cases op with
  | add =>
    show some (Value.int k (wrapR k (addI a b))) = some (Value.int k (k.wrap (a + b)))
    rw [wrapR_eq, addI_eq]
  | eql => exact congrArg (some ∘ Value.bool) (eqI_eq a b)
  | neq =>
    show some (Value.bool (notR (eqI a b))) = some (Value.bool (a != b))
    rw [notR_eq, eqI_eq]; rfl
  | lss => exact congrArg (some ∘ Value.bool) (ltI_eq a b)
  | leq =>
    show some (Value.bool (notR (ltI b a))) = some (Value.bool (decide (a ≤ b)))
    rw [notR_eq, ltI_eq, ← decide_not]
    congr 2
    exact decide_eq_decide.2 Int.not_lt
  | gtr => exact congrArg (some ∘ Value.bool) (ltI_eq b a)
  | geq =>
    show some (Value.bool (notR (ltI a b))) = some (Value.bool (decide (a ≥ b)))
    rw [notR_eq, ltI_eq, ← decide_not]
    congr 2
    exact decide_eq_decide.2 Int.not_lt
  | _ => rfl
theorem stK_eq (op : BinOp) (a b : List UInt8) : (stK op).run a b = strC op a b := by
  cases op with
  | eql => exact congrArg (some ∘ Value.bool) (eqB_eq a b)
  | neq =>
    show some (Value.bool (notR (eqB a b))) = some (Value.bool (!(a == b)))
    rw [notR_eq, eqB_eq]
  | _ => rfl
theorem ifaceC_none (P : Program) (op : BinOp) (t : TypeId) (x y : Value) (yo : Operand) (h : y ≠ .nilIface) : ifaceC P op t x y yo = none := by
  unfold ifaceC
  split
  · exact absurd rfl h
  · rfl
theorem binR_eq (P : Program) (op : BinOp) (t : TypeId) (x y : Value) (yo : Operand) : binR P op t x y yo = binAnyC P op t x y yo := by
  have hany : ∀ x y, y ≠ .nilIface → binAnyC P op t x y yo = binC P op t x y := fun x y h => by
    unfold binAnyC
    rw [ifaceC_none P op t x y yo h]
    cases binC P op t x y <;> rfl
  cases x with
  | int k a =>
    cases y with
    | int k' b =>
      rw [hany _ _ (by simp)]
      show bre none ((inK op).run k a b) (eqK k k') = if k = k' then intC op k a b else none
      rw [bre_eq, inK_eq, eqK_eq]
      simp
    | _ => rfl
  | string a =>
    cases y with
    | string b =>
      rw [hany _ _ (by simp)]
      exact stK_eq op _ _
    | _ => rfl
  | _ => rfl
theorem ld1R_eq (x : Value) (F : Fw) : ld1R x F = ld1 x F := by
  cases x with
  | pointer a =>
    cases a with
    | none => rfl
    | some a => obtain ⟨b, o, sp⟩ := a; cases sp <;> rfl
  | _ => rfl
theorem ldNR_eq (m : Nat) (x : Value) (F : Fw) : ldNR m x F = ldN m x F := by
  cases x with
  | pointer a =>
    cases a with
    | none => rfl
    | some a => obtain ⟨b, o, sp⟩ := a; cases sp <;> rfl
  | _ => rfl
theorem newR_eq (e : TypeId) (cells : Array Value) (F : Fw) : newR e cells F = newF F e cells := by
  unfold newR
  rw [pushR_eq]
  rfl
theorem unR_eq (F : Fw) (r : Option Fw) : unR F r = okU r := by cases r <;> rfl
theorem pickR_eq (c a b : Value) : pickR c a b = pickC c a b := by
  cases c with
  | bool c => cases c <;> rfl
  | _ => rfl
theorem notV_eq (x : Value) : notV x = unC .not x := by
  cases x with
  | bool c => cases c <;> rfl
  | _ => rfl

/-- What an operation in the kernel's form gives. -/
def Cm.sem (c : Cm) (e : Ev12) (F : Fw) : Option (Value × Fw) := match c with
  | .tot f => some (f e, F)
  | .par f => okV F (f e F)
  | .mem f => f e F
theorem cmE_sem (op : Op) (e : Ev12) (F : Fw) : (cmE P B n op).sem e F = doF P B (faE n e).eval op F := by
  cases op with
  | move x => exact congrArg (fun v => some (v, F)) (evE_eq e x)
  | assign x => exact congrArg (fun v => some (v, F)) (evE_eq e x)
  | pick x y z =>
    show okV F (pickR ((evE n x).run e) ((evE n y).run e) ((evE n z).run e)) = okV F (pickC _ _ _)
    rw [pickR_eq, evE_eq, evE_eq, evE_eq]
  | nilCheck x => exact congrArg (fun v => okV F (nilCheckC v)) (evE_eq e x)
  | binOp op t x y yt =>
    show okV F (binR P op t ((evE n x).run e) ((evE n y).run e) y) = okV F (binAnyC P op t _ _ y)
    rw [binR_eq, evE_eq, evE_eq]
  | unOp u t x =>
    cases u with
    | not =>
      show okV F (notV ((evE n x).run e)) = okV F (unC .not _)
      rw [notV_eq, evE_eq]
    | _ => rw [← evsE_eq]; rfl
  | fieldAddr t x f =>
    show _ = okV F (fieldAddrC P t ((faE n e).eval x) f)
    rw [fieldAddr_cases, ← evE_eq]
    unfold cmE
    dsimp only
    cases foK P t f <;> rfl
  | indexAddr t x i =>
    show _ = okV F (indexAddrC P t ((faE n e).eval x) ((faE n e).eval i))
    rw [indexAddr_cases, ← evE_eq, ← evE_eq]
    unfold cmE
    dsimp only
    cases ixK P t <;> rfl
  | alloc t =>
    show _ = allocF P t F
    unfold cmE allocF
    dsimp only
    cases zeroC P t with
    | none => rfl
    | some z => exact newR_eq t z.cells F
  | box t x =>
    show newR t ((evE n x).run e).cells F = newF F t ((faE n e).eval x).cells
    rw [newR_eq, evE_eq]
  | load t x =>
    show _ = okV F (loadF P t ((faE n e).eval x) F)
    rw [loadF_cases, ← evE_eq]
    unfold cmE
    dsimp only
    rcases ldK P t with _ | _ | m
    · rfl
    · exact congrArg (okV F) (ld1R_eq _ F)
    · exact congrArg (okV F) (ldNR_eq m _ F)
  | store t x v =>
    show _ = okU (storeF P B t ((faE n e).eval x) ((faE n e).eval v) F)
    rw [storeF_cases, ← evE_eq, ← evE_eq]
    unfold cmE
    dsimp only
    cases stoK P t with
    | none => rfl
    | some m => exact unR_eq F _
  | _ => rw [← evsE_eq]; rfl
theorem cmV_eq (c : Cm) (e : Ev12) (F : Fw) : (cmV c).run e F = (c.sem e F).map (·.1) := by
  cases c with
  | tot f => rfl
  | par f =>
    show f e F = (okV F (f e F)).map (·.1)
    cases f e F <;> rfl
  | mem f =>
    show ore (pre fun v _ => some v) (f e F) = (f e F).map (·.1)
    cases f e F <;> rfl
theorem cmV_do (op : Op) (e : Ev12) (F : Fw) : (cmV (cmE P B n op)).run e F = (doF P B (faE n e).eval op F).map (·.1) := by rw [cmV_eq, cmE_sem]
end Go.Proofs.YtjnimfnelacceaaGreatDoor

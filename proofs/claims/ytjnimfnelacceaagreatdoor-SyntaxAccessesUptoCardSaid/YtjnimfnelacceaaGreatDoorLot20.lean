/- Maps and append, in the small world and in the great one. Append, in the small world and in the great one: in the small one an append to a slice that is full kills the old block. -/
import Derived.Test.YtjnimfnelacceaaGreatDoorLot19
import Derived.Laws.IdiomCopy
set_option linter.unusedSimpArgs false
set_option linter.unusedVariables false
namespace Go.Proofs.YtjnimfnelacceaaGreatDoor
open Go.RowKit

variable {P : Program} {B G : Nat} {w0 : World} {α β γ δ : Type} {L : Lie} {c w : World}

/-! ### Maps with strings for keys -/
def findS (s : List UInt8) : List MapEntry → Option (Option Value)
  | [] => some none
  | e :: es => match e.key with
    | .string a => if s == a.data.toList then some (some e.val) else findS s es
    | _ => none
theorem bytes_beq (a b : ByteArray) : (a == b) = (a.data.toList == b.data.toList) := by
  obtain ⟨a⟩ := a
  obtain ⟨b⟩ := b
  show (a == b) = (a.toList == b.toList)
  rw [Bool.eq_iff_iff, beq_iff_eq, beq_iff_eq]
  exact ⟨fun h => by rw [h], fun h => Array.ext' h⟩
/-- Lists of entries, alike. -/
def ER (P : Program) (L : Lie) : List MapEntry → List MapEntry → Prop
  | [], [] => True
  | x :: xs, y :: ys => MR P L x y ∧ ER P L xs ys
  | _, _ => False
theorem findS_none {s : ByteArray} : ∀ (es fs : List MapEntry) (i : Nat), ER P L es fs → findS s.data.toList es = some none → Instr.findNow .string (.string s) fs i = some none
  | [], [], _, _, _ => rfl
  | [], _ :: _, _, h, _ => h.elim
  | _ :: _, [], _, h, _ => h.elim
  | e :: es, f :: fs, i, h, hf => by
    obtain ⟨⟨hk, _, _, _⟩, ht⟩ := h
    unfold findS at hf
    unfold Instr.findNow
    rw [← hk]
    split at hf
    · rename_i a ha
      rw [ha]
      split at hf
      · cases hf
      · rename_i hne
        simp only [Instr.sameNow, bytes_beq, Bool.eq_false_iff.2 hne]
        exact findS_none es fs (i + 1) ht hf
    · cases hf
theorem findS_some {s : ByteArray} {v : Value} : ∀ (es fs : List MapEntry) (i : Nat), ER P L es fs → findS s.data.toList es = some (some v) →
    ∃ j v', Instr.findNow .string (.string s) fs i = some (some (j, v')) ∧ VR P L v v'
  | [], [], _, _, h => by simp [findS] at h
  | [], _ :: _, _, h, _ => h.elim
  | _ :: _, [], _, h, _ => h.elim
  | e :: es, f :: fs, i, h, hf => by
    obtain ⟨⟨hk, _, _, hv⟩, ht⟩ := h
    unfold findS at hf
    unfold Instr.findNow
    rw [← hk]
    split at hf
    · rename_i a ha
      rw [ha]
      split at hf
      · rename_i he
        injection hf with hf
        injection hf with hf
        subst hf
        refine ⟨i, f.val, ?_, hv⟩
        simp only [Instr.sameNow, bytes_beq, he]
      · rename_i hne
        simp only [Instr.sameNow, bytes_beq, Bool.eq_false_iff.2 hne]
        exact findS_some es fs (i + 1) ht hf
    · cases hf
theorem ER.of {es fs : Array MapEntry} (hs : es.size = fs.size) (h : ∀ (i : Nat) (x y : MapEntry), es[i]? = some x → fs[i]? = some y → MR P L x y) : ER P L es.toList fs.toList := by
  have key : ∀ (l m : List MapEntry), l.length = m.length → (∀ (i : Nat) (x y : MapEntry), l[i]? = some x → m[i]? = some y → MR P L x y) → ER P L l m := by
    intro l
    induction l with
    | nil => intro m hl _; cases m with
      | nil => trivial
      | cons => simp at hl
    | cons a l ih =>
      intro m hl hh
      cases m with
      | nil => simp at hl
      | cons b m => exact ⟨hh 0 a b rfl rfl, ih m (by simpa using hl) fun i x y hx hy => hh (i + 1) x y (by simpa using hx) (by simpa using hy)⟩
  exact key _ _ (by simpa using hs) fun i x y hx hy => h i x y (by simpa using hx) (by simpa using hy)
theorem Sim.mapAt (h : Sim P B G w0 L c w) {r : Nat} {es : Array MapEntry} {k : Nat} (hc : c.heap[r]? = some (.map es k)) :
    r < L.n ∧ ∃ fs, w.heap[L.at_ r]? = some (.map fs k) ∧ es.size = fs.size ∧ ∀ (i : Nat) (x y : MapEntry), es[i]? = some x → fs[i]? = some y → MR P L x y := by
  refine ⟨by rw [h.n]; exact (Array.getElem?_eq_some_iff.1 hc).1, ?_⟩
  obtain ⟨o', ho, hr⟩ := h.obj r _ hc rfl
  cases o' with
  | map fs k' =>
    obtain ⟨rfl, h1, h2⟩ := hr
    exact ⟨fs, ho, h1, h2⟩
  | _ => exact hr.elim
/-- A value's place in a map with strings for keys. -/
def lookupC (P : Program) (t : TypeId) (x k : Value) (ok : Bool) (c : World) : Option Value :=
  match P.underlying t with
  | some (.map kt et) => (match P.underlying kt, (P.info? et).bind (·.zero) with
    | some .string, some z => if flatV z = true then (match x, k with
      | .map (some r), .string s => (match c.heap[r]? with
        | some (.map es _) => (match findS s.data.toList es.toList with
          | some (some v) => some (if ok then .tuple #[v, .bool true] else v)
          | some none => some (if ok then .tuple #[z, .bool false] else z)
          | none => none)
        | _ => none)
      | _, _ => none) else none
    | _, _ => none)
  | _ => none
theorem run_checkKey_string {e : Bool} {n : Nat} {t : TypeId} {s : ByteArray} (hu : P.underlying t = some .string) (w : World) : (Instr.checkKey e (n + 1) t (.string s)).run P w = .ok () w := by
  unfold Instr.checkKey
  simp only [Sem.run_bind, run_underlying_of hu, Result.andThen_ok, Sem.run_pure]
theorem run_zeroValue_of {t : TypeId} {z : Value} (h : (P.info? t).bind (·.zero) = some z) (w : World) : (zeroValue t).run P w = .ok z w := by
  unfold Go.zeroValue Go.typeInfo
  simp only [Sem.run_bind, Go.program, Sem.run, Result.andThen_ok]
  cases hi : P.info? t with
  | none => rw [hi] at h; cases h
  | some i =>
    rw [hi] at h
    simp only [Option.bind_some] at h
    simp [h]
theorem AR.pair {a b a' b' : Value} (h : VR P L a a') (g : VR P L b b') : AR P L #[a, b] #[a', b'] := by
  have := (AR.one h).push g
  simpa using this
theorem lookupC_spec (h : Sim P B G w0 L c w) {t : TypeId} {x x' k k' v : Value} {ok : Bool} (hx : VR P L x x') (hk : VR P L k k') (he : lookupC P t x k ok c = some v) :
    ∃ v', (Instr.lookup t x' k' ok).run P w = .ok v' w ∧ VR P L v v' := by
  unfold lookupC at he
  split at he
  · rename_i kt et hu
    split at he
    · rename_i z hku hz
      split at he
      · rename_i hfz
        split at he
        · rename_i r s
          split at he
          · rename_i es kk hh
            cases hx; cases hk
            obtain ⟨_, fs, hw, hsz, hm⟩ := h.mapAt hh
            have hER := ER.of hsz hm
            have hget : (getObj (L.at_ r)).run P w = .ok (.map fs kk) w := by unfold Go.getObj; simp only [Sem.run, hw]
            split at he
            · rename_i v0 hf
              injection he with he
              obtain ⟨j, v', hn, hv⟩ := findS_some _ _ 0 hER hf
              refine ⟨if ok then .tuple #[v', .bool true] else v', ?_, ?_⟩
              · unfold Instr.lookup
                simp only [Sem.run_bind, run_underlying_of hu, Result.andThen_ok, hget, Sem.run_pure, run_checkKey_string (n := 9999) hku]
                unfold Instr.findKey
                simp only [Sem.run_bind, run_underlying_of hku, Result.andThen_ok, hn, Sem.run_pure]
              · rw [← he]
                split
                · have := AR.pair hv (.bool true : VR P L _ _)
                  exact .tuple _ _ this.1 this.2
                · exact hv
            · rename_i hf
              injection he with he
              have hn := findS_none _ _ 0 hER hf
              refine ⟨if ok then .tuple #[z, .bool false] else z, ?_, ?_⟩
              · unfold Instr.lookup
                simp only [Sem.run_bind, run_underlying_of hu, Result.andThen_ok, hget, Sem.run_pure, run_checkKey_string (n := 9999) hku]
                unfold Instr.findKey
                simp only [Sem.run_bind, run_underlying_of hku, Result.andThen_ok, hn, Sem.run_pure, run_zeroValue_of hz]
              · rw [← he]
                split
                · have := AR.pair (VR.of_flat hfz : VR P L z z) (.bool false : VR P L _ _)
                  exact .tuple _ _ this.1 this.2
                · exact .of_flat hfz
            · cases he
          · cases he
        · cases he
      · cases he
    · cases he
  · cases he
/-- A new key is put into a map with strings for keys. -/
def updateC (P : Program) (B : Nat) (t : TypeId) (m k x : Value) (c : World) : Option World :=
  match P.underlying t with
  | some (.map kt _) => (match P.underlying kt with
    | some .string => (match m, k with
      | .map (some r), .string s => if B ≤ r then (match c.heap[r]? with
        | some (.map es n) => (match findS s.data.toList es.toList with
          | some none => some { c with heap := c.heap.setIfInBounds r (.map (es.push { key := .string s, val := x, born := n }) (n + 1)) }
          | _ => none)
        | _ => none) else none
      | _, _ => none)
    | _ => none)
  | _ => none
theorem Sim.setObj (h : Sim P B G w0 L c w) {r : Nat} {o o1 o' : Obj} (hB : B ≤ r) (hc : c.heap[r]? = some o) (ha : alive o = true) (hn : isView o1 = false) (hs : ∀ s, w.shape? (L.at_ r) = some s → World.shape? { w with heap := w.heap.setIfInBounds (L.at_ r) o' } (L.at_ r) = some s)
    (hr : OR P L o1 o') : ∃ M, L.le M ∧ Sim P B G w0 M { c with heap := c.heap.setIfInBounds r o1 } { w with heap := w.heap.setIfInBounds (L.at_ r) o' } := by
  have hrn : r < c.heap.size := (Array.getElem?_eq_some_iff.1 hc).1
  have hwn := at_lt h hc ha
  have hle : L.le ⟨L.n, L.at_, World.shape? { w with heap := w.heap.setIfInBounds (L.at_ r) o' }⟩ := by
    refine ⟨Nat.le_refl _, fun _ _ => rfl, fun q s hq => ?_⟩
    rw [h.sh] at hq
    by_cases he : q = L.at_ r
    · subst he; exact hs s hq
    · show World.shape? { w with heap := w.heap.setIfInBounds (L.at_ r) o' } q = some s
      unfold World.shape? at hq ⊢
      simp only [Array.getElem?_setIfInBounds, show ¬ L.at_ r = q from fun e => he e.symm, if_false]
      exact hq
  have key : ∀ (q : Nat) (x : Obj), (c.heap.setIfInBounds r o1)[q]? = some x → (q = r ∧ x = o1) ∨ (q ≠ r ∧ c.heap[q]? = some x) := by
    intro q x hq
    rw [Array.getElem?_setIfInBounds] at hq
    by_cases he : r = q
    · subst he
      rw [if_pos rfl, if_pos hrn] at hq
      injection hq with hq
      exact .inl ⟨rfl, hq.symm⟩
    · rw [if_neg he] at hq
      exact .inr ⟨fun e => he e.symm, hq⟩
  have aliveOf : ∀ (q : Nat) (x : Obj), (c.heap.setIfInBounds r o1)[q]? = some x → alive x = true → ∃ y, c.heap[q]? = some y ∧ alive y = true := by
    intro q x hq hx
    rcases key q x hq with ⟨rfl, _⟩ | ⟨_, h2⟩
    · exact ⟨o, hc, ha⟩
    · exact ⟨x, h2, hx⟩
  refine ⟨_, hle, by simpa using h.n, rfl, h.glob, h.gle, h.ble, ?_, ?_, h.fresh, ?_, ?_⟩
  · intro a b x y hx hy ax ay he
    obtain ⟨x', hx', ax'⟩ := aliveOf a x hx ax
    obtain ⟨y', hy', ay'⟩ := aliveOf b y hy ay
    exact h.inj a b x' y' hx' hy' ax' ay' he
  · intro q x hq ax
    rcases key q x hq with ⟨rfl, rfl⟩ | ⟨h1, h2⟩
    · refine ⟨o', ?_, hr.mono hle⟩
      show (w.heap.setIfInBounds (L.at_ q) o')[L.at_ q]? = _
      rw [Array.getElem?_setIfInBounds, if_pos rfl, if_pos hwn]
    · obtain ⟨y, hy, hor⟩ := h.obj q x h2 ax
      refine ⟨y, ?_, hor.mono hle⟩
      show (w.heap.setIfInBounds (L.at_ r) o')[L.at_ q]? = _
      rw [Array.getElem?_setIfInBounds, if_neg, hy]
      intro e
      exact h1 (h.inj r q o x hc h2 ha ax e).symm
  · refine ⟨h.below.os, h.below.tape, h.below.output, by simpa using h.below.size, fun k hk => ?_⟩
    show (w.heap.setIfInBounds (L.at_ r) o')[k]? = _
    have := h.fresh r hB (by rw [h.n]; exact hrn)
    rw [Array.getElem?_setIfInBounds, if_neg (by omega)]
    exact h.below.block k hk
  · intro q x hq
    rcases key q x hq with ⟨_, rfl⟩ | ⟨_, h2⟩
    · exact hn
    · exact h.nov q x h2
theorem updateC_spec (h : Sim P B G w0 L c w) {t : TypeId} {m m' k k' x x' : Value} {c1 : World} (hm : VR P L m m') (hk : VR P L k k') (hx : VR P L x x') (he : updateC P B t m k x c = some c1) :
    ∃ M w1, (Instr.mapUpdate t m' k' x').run P w = .ok () w1 ∧ L.le M ∧ Sim P B G w0 M c1 w1 := by
  unfold updateC at he
  split at he
  · rename_i kt et hu
    split at he
    · rename_i hku
      split at he
      · rename_i r s
        split at he
        · rename_i hB
          split at he
          · rename_i es n hh
            split at he
            · rename_i hf
              injection he with he
              subst he
              cases hm; cases hk
              obtain ⟨_, fs, hw, hsz, hmr⟩ := h.mapAt hh
              have hn := findS_none _ _ 0 (ER.of hsz hmr) hf
              have hget : (getObj (L.at_ r)).run P w = .ok (.map fs n) w := by unfold Go.getObj; simp only [Sem.run, hw]
              have hor : OR P L (.map (es.push { key := .string s, val := x, born := n }) (n + 1)) (.map (fs.push { key := .string s, val := x', born := n }) (n + 1)) := by
                refine ⟨rfl, by simp [hsz], fun i a b ha hb => ?_⟩
                rw [Array.getElem?_push] at ha hb
                split at ha
                · rename_i hi
                  rw [if_pos (by rw [hi, hsz])] at hb
                  injection ha with ha
                  injection hb with hb
                  subst ha hb
                  exact ⟨rfl, rfl, rfl, hx⟩
                · rename_i hi
                  rw [if_neg (by rw [← hsz]; exact hi)] at hb
                  exact hmr i a b ha hb
              obtain ⟨M, hle, hS⟩ := h.setObj hB hh rfl (o1 := .map (es.push { key := .string s, val := x, born := n }) (n + 1)) rfl (fun s hs => by unfold World.shape? at hs; simp only [hw] at hs; cases hs) hor
              refine ⟨M, _, ?_, hle, hS⟩
              unfold Instr.mapUpdate
              simp only [Sem.run_bind, run_underlying_of hu, Result.andThen_ok, hget, Sem.run_pure, run_checkKey_string (n := 9999) hku]
              unfold Instr.findKey
              simp only [Sem.run_bind, run_underlying_of hku, Result.andThen_ok, hn, Sem.run_pure]
              unfold Go.setObj
              simp only [Sem.run, hw]
            · cases he
          · cases he
        · cases he
      · cases he
    · cases he
  · cases he
end Go.Proofs.YtjnimfnelacceaaGreatDoor
namespace Go.Proofs.YtjnimfnelacceaaGreatDoor
open Go.RowKit

variable {P : Program} {B G : Nat} {w0 : World} {α β γ δ : Type} {L : Lie} {c w : World}

def cellsAt (c : World) (a : Option Addr) (n : Nat) : Option (Array Value) :=
  match a with
  | none => if n = 0 then some #[] else none
  | some a => (match c.heap[a.block]? with
    | some (.cells xs _ _) => if a.spot = none ∧ a.off + n ≤ xs.size then some (xs.extract a.off (a.off + n)) else none
    | _ => none)
def appendC (P : Program) (B : Nat) (t t2 : TypeId) (x y : Value) (c : World) : Option (Value × World) :=
  match P.underlying t, P.underlying t2, x, y with
  | some (.slice elem), some (.slice _), .slice base sl sc, .slice yb yl _ =>
    (match P.info? elem with
    | some i => (match i.zero with
      | some z =>
        if z.cells.size = i.size ∧ z.cells.all flat1 = true ∧ i.bytes ≤ 10000 ∧ sl + yl ≤ 10000 then
          (match cellsAt c yb (yl * i.size) with
          | some ys =>
            if ys.all one1 = true then
              (if sl + yl ≤ sc then (if yl = 0 then some (x, c) else none)
              else match base with
                | none => if sl = 0 then some (.slice (some ⟨c.heap.size, 0, none⟩) yl yl, { c with heap := c.heap.push (.cells ys elem) }) else none
                | some ⟨b, o, s⟩ => (match c.heap[b]? with
                  | some (.cells xs e _) => if B ≤ b ∧ e = elem ∧ xs.size = sl * i.size ∧ o = 0 ∧ s = none then
                      some (.slice (some ⟨c.heap.size, 0, none⟩) (sl + yl) (sl + yl), { c with heap := (c.heap.setIfInBounds b (.coro none)).push (.cells (xs ++ ys) elem) }) else none
                  | _ => none))
            else none
          | none => none)
        else none
      | none => none)
    | none => none)
  | _, _, _, _ => none

/-- So many cells are read behind a slice's address. -/
def Loads (P : Program) (a : Option Addr) (n : Nat) (us : Array Value) (w : World) : Prop :=
  match a with
  | none => us = #[]
  | some b => (loadCells b n).run P w = .ok us w
/-- The cells behind a slice, in the great world. -/
theorem cellsAt_spec (h : Sim P B G w0 L c w) {a a' : Option Addr} {l k k' n l' : Nat} {ys : Array Value} (hv : VR P L (.slice a l k) (.slice a' l' k')) (he : cellsAt c a n = some ys) :
    ys.size = n ∧ ∃ us, AR P L ys us ∧ ∀ w1 : World, (∀ j, j < w.heap.size → w1.heap[j]? = w.heap[j]?) → Loads P a' n us w1 := by
  unfold cellsAt at he
  cases hv with
  | nilS l k =>
    dsimp only at he
    split at he
    · rename_i h0
      injection he with he
      subst he
      exact ⟨by simp [h0], #[], .nil, fun _ _ => rfl⟩
    · cases he
  | slice b o l k k' hb hc =>
    dsimp only at he
    split at he
    · rename_i xs e fz hh
      split at he
      · rename_i ho
        injection he with he
        subst he
        obtain ⟨_, us, hw, _, hs, hvs⟩ := h.cells hh
        have hsz : (xs.extract o (o + n)).size = n := by simp only [Array.size_extract]; omega
        refine ⟨hsz, ((List.range n).map fun j => us.getD (o + j) undef).toArray, ⟨by rw [hsz]; simp, fun i hi => ?_⟩, fun w1 hw1 => ?_⟩
        · rw [hsz] at hi
          have e1 : (xs.extract o (o + n)).getD i undef = xs.getD (o + i) undef := by simp [Array.getD, show i < min (o + n) xs.size - o by omega, show o + i < xs.size by omega]
          have e2 : (((List.range n).map fun j => us.getD (o + j) undef).toArray).getD i undef = us.getD (o + i) undef := by simp [Array.getD, hi]
          rw [e1, e2]
          exact hvs _ (by omega)
        · refine run_loadCells w1 _ n (fun j => us.getD (o + j) undef) fun j hj => ?_
          rw [add_none]
          have : w1.heap[L.at_ b]? = some (.cells us e (0, 0)) := by rw [hw1 _ (at_lt h hh rfl)]; exact hw
          rw [cell?_of this]
          exact getElem?_of_getD (by omega)
      · cases he
    · cases he

theorem growBy_le (need : Nat) : ∀ (r k : Nat), k ≤ need + (need + 768) / 4 → Builtin.growBy need r k ≤ need + (need + 768) / 4
  | 0, k, h => h
  | r + 1, k, h => by
    unfold Builtin.growBy
    split
    · exact h
    · rename_i hlt
      refine growBy_le need r _ ?_
      omega
theorem nextslicecap_le {need k : Nat} (h : k < need) : Builtin.nextslicecap need k ≤ 2 * need + 768 := by
  unfold Builtin.nextslicecap
  split
  · omega
  · split
    · omega
    · have := growBy_le need 4 k (by omega)
      omega
/-- A block is killed: nothing is said of it any more. -/
theorem Sim.kill (h : Sim P B G w0 L c w) (b : Nat) : Sim P B G w0 L { c with heap := c.heap.setIfInBounds b (.coro none) } w := by
  have key : ∀ (q : Nat) (x : Obj), (c.heap.setIfInBounds b (.coro none))[q]? = some x → x = .coro none ∨ (q ≠ b ∧ c.heap[q]? = some x) := by
    intro q x hq
    rw [Array.getElem?_setIfInBounds] at hq
    split at hq
    · rename_i he
      split at hq
      · injection hq with hq; exact .inl hq.symm
      · cases hq
    · rename_i he
      exact .inr ⟨fun e => he e.symm, hq⟩
  refine ⟨by simpa using h.n, h.sh, h.glob, h.gle, h.ble, ?_, ?_, h.fresh, h.below, ?_⟩
  · intro r s x y hx hy ax ay he
    rcases key r x hx with rfl | ⟨_, hx⟩
    · cases ax
    · rcases key s y hy with rfl | ⟨_, hy⟩
      · cases ay
      · exact h.inj r s x y hx hy ax ay he
  · intro r x hx ax
    rcases key r x hx with rfl | ⟨_, hx⟩
    · cases ax
    · exact h.obj r x hx ax
  · intro r x hx
    rcases key r x hx with rfl | ⟨_, hx⟩
    · rfl
    · exact h.nov r x hx
/-- What stores into a row leave. -/
theorem setCells_row (b : Nat) : ∀ (vs : List Value) (o : Nat) (w : World) (us : Array Value) (e : TypeId), w.heap[b]? = some (.cells us e (0, 0)) → o + vs.length ≤ us.size →
    ∃ us', (w.setCells b o vs).heap[b]? = some (.cells us' e (0, 0)) ∧ us'.size = us.size ∧ (∀ i, us'.getD i undef = if o ≤ i ∧ i < o + vs.length then vs.getD (i - o) undef else us.getD i undef) ∧
      (∀ j, j ≠ b → (w.setCells b o vs).heap[j]? = w.heap[j]?) ∧ (w.setCells b o vs).heap.size = w.heap.size ∧ (w.setCells b o vs).shape? = w.shape? ∧
      (w.setCells b o vs).os = w.os ∧ (w.setCells b o vs).tape = w.tape ∧ (w.setCells b o vs).output = w.output
  | [], o, w, us, e, h, _ => ⟨us, h, rfl, fun i => by rw [if_neg (by simp)], fun _ _ => rfl, rfl, rfl, rfl, rfl, rfl⟩
  | v :: vs, o, w, us, e, h, hl => by
    have hl' : o < us.size := by simp only [List.length_cons] at hl; omega
    have h1 : (w.setCell ⟨b, o, none⟩ v).heap[b]? = some (.cells (us.setIfInBounds o v) e (0, 0)) := by rw [heap_setCell, if_pos rfl, h]; rfl
    obtain ⟨us', g1, g2, g3, g4, g5, g6, g7, g8, g9⟩ := setCells_row b vs (o + 1) (w.setCell ⟨b, o, none⟩ v) _ e h1 (by simp only [List.length_cons] at hl; simp; omega)
    refine ⟨us', g1, by simpa using g2, fun i => ?_, fun j hj => ?_, g5.trans (size_setCell' _ _ _), g6.trans (shape?_setCell' _ _ _ _), g7, g8, g9⟩
    · rw [g3 i]
      simp only [List.length_cons]
      by_cases hi : o + 1 ≤ i ∧ i < o + 1 + vs.length
      · rw [if_pos hi, if_pos (by omega)]
        obtain ⟨k, rfl⟩ : ∃ k, i = o + 1 + k := ⟨i - (o + 1), by omega⟩
        rw [show o + 1 + k - (o + 1) = k by omega, show o + 1 + k - o = k + 1 by omega]
        simp [List.getD]
      · rw [if_neg hi]
        by_cases hio : i = o
        · subst hio
          rw [if_pos (by omega)]
          simp [Array.getD, hl', List.getD]
        · rw [if_neg (by omega)]
          by_cases hlt : i < us.size
          · simp [Array.getD, hlt, Array.getElem_setIfInBounds, show ¬ o = i from fun e => hio e.symm]
          · simp [Array.getD, hlt]
    · rw [show (w.setCells b o (v :: vs)) = (w.setCell ⟨b, o, none⟩ v).setCells b (o + 1) vs from rfl, g4 j hj, heap_setCell, if_neg (fun e => hj e.symm)]
end Go.Proofs.YtjnimfnelacceaaGreatDoor

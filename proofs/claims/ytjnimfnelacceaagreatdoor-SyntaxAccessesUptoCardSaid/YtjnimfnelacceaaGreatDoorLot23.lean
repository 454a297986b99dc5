/- Operations on a small world that is read and written fast. More operations on a small world that is read and written fast. -/
import Derived.Test.YtjnimfnelacceaaGreatDoorLot22
set_option linter.unusedSimpArgs false
set_option linter.unusedVariables false
namespace Go.Proofs.YtjnimfnelacceaaGreatDoor
open Go.RowKit

variable {P : Program} {B G : Nat} {w0 : World} {L : Lie}

def getL : List Value → Nat → Value
  | [], _ => undef
  | v :: _, 0 => v
  | _ :: l, i + 1 => getL l i
theorem getL_eq : ∀ (l : List Value) (i : Nat), getL l i = l.toArray.getD i undef
  | [], i => by simp [getL, Array.getD]
  | v :: l, 0 => by simp [getL, Array.getD]
  | v :: l, i + 1 => by
    rw [getL, getL_eq l i]
    simp [Array.getD]
def setL : List Value → Nat → Value → List Value
  | [], _, _ => []
  | _ :: l, 0, x => x :: l
  | v :: l, i + 1, x => v :: setL l i x
theorem setL_eq : ∀ (l : List Value) (i : Nat) (x : Value), setL l i x = l.set i x
  | [], _, _ => rfl
  | _ :: _, 0, _ => rfl
  | v :: l, i + 1, x => by rw [setL, setL_eq l i x]; rfl
def getO : List Value → Nat → Option Value
  | [], _ => none
  | v :: _, 0 => some v
  | _ :: l, i + 1 => getO l i
theorem getO_eq : ∀ (l : List Value) (i : Nat), getO l i = l[i]?
  | [], _ => rfl
  | _ :: _, 0 => rfl
  | v :: l, i + 1 => by rw [getO, getO_eq l i]; rfl
def takeN : List Value → Nat → Option (List Value)
  | _, 0 => some []
  | [], _ + 1 => none
  | v :: l, n + 1 => match takeN l n with
    | some r => some (v :: r)
    | none => none
def takeAt : List Value → Nat → Nat → Option (List Value)
  | l, 0, n => takeN l n
  | [], _ + 1, n => takeN [] n
  | _ :: l, o + 1, n => takeAt l o n
theorem takeN_spec : ∀ (l : List Value) (n : Nat) (r : List Value), takeN l n = some r → r.length = n ∧ n ≤ l.length ∧ ∀ j, j < n → l[j]? = some (r.getD j undef)
  | _, 0, r, h => by simp only [takeN, Option.some.injEq] at h; subst h; exact ⟨rfl, Nat.zero_le _, fun j hj => absurd hj (by omega)⟩
  | [], n + 1, r, h => by simp [takeN] at h
  | v :: l, n + 1, r, h => by
    simp only [takeN] at h
    split at h
    · rename_i r' hr
      injection h with h
      subst h
      obtain ⟨h1, h2, h3⟩ := takeN_spec l n r' hr
      refine ⟨by simp [h1], by simp; omega, fun j hj => ?_⟩
      cases j with
      | zero => simp [List.getD]
      | succ j => have := h3 j (by omega); simpa [List.getD] using this
    · cases h
theorem takeAt_spec : ∀ (l : List Value) (o n : Nat) (r : List Value), takeAt l o n = some r → r.length = n ∧ (n ≠ 0 → o + n ≤ l.length) ∧ ∀ j, j < n → l[o + j]? = some (r.getD j undef)
  | l, 0, n, r, h => by
    rw [takeAt.eq_def] at h
    have h' : takeN l n = some r := by cases l <;> exact h
    obtain ⟨h1, h2, h3⟩ := takeN_spec l n r h'
    exact ⟨h1, fun _ => by omega, fun j hj => by rw [Nat.zero_add]; exact h3 j hj⟩
  | [], o + 1, n, r, h => by
    simp only [takeAt] at h
    obtain ⟨h1, h2, h3⟩ := takeN_spec [] n r h
    have : n = 0 := by simpa using h2
    subst this
    exact ⟨h1, fun h => absurd rfl h, fun j hj => absurd hj (by omega)⟩
  | v :: l, o + 1, n, r, h => by
    simp only [takeAt] at h
    obtain ⟨h1, h2, h3⟩ := takeAt_spec l o n r h
    refine ⟨h1, fun hn => by have := h2 hn; simp; omega, fun j hj => ?_⟩
    rw [show o + 1 + j = (o + j) + 1 by omega]
    simpa using h3 j hj
theorem map_range_getD (r : List Value) (n : Nat) (h : r.length = n) : ((List.range n).map fun j => r.getD j undef) = r := by
  subst h
  apply List.ext_getElem?
  intro i
  by_cases hi : i < r.length
  · simp [hi, List.getD]
  · simp [hi]
/-- The cells of a list, some of them replaced from a place on. -/
def spl : List Value → Nat → List Value → Option (List Value)
  | l, _, [] => some l
  | [], _, _ :: _ => none
  | _ :: l, 0, v :: vs => (match spl l 0 vs with
    | some r => some (v :: r)
    | none => none)
  | x :: l, o + 1, v :: vs => (match spl l o (v :: vs) with
    | some r => some (x :: r)
    | none => none)
theorem spl_spec : ∀ (l : List Value) (o : Nat) (vs r : List Value), spl l o vs = some r → r.length = l.length ∧ (vs ≠ [] → o + vs.length ≤ l.length) ∧ ∀ i, r.getD i undef = if o ≤ i ∧ i < o + vs.length then vs.getD (i - o) undef else l.getD i undef
  | l, o, [], r, h => by
    have h' : l = r := by cases l <;> (simp only [spl, Option.some.injEq] at h; exact h)
    subst h'
    exact ⟨rfl, fun h => absurd rfl h, fun i => by rw [if_neg (by simp)]⟩
  | [], o, v :: vs, r, h => by simp [spl] at h
  | x :: l, 0, v :: vs, r, h => by
    simp only [spl] at h
    split at h
    · rename_i r' hr
      injection h with h
      subst h
      obtain ⟨h1, h2, h3⟩ := spl_spec l 0 vs r' hr
      refine ⟨by simp [h1], fun _ => ?_, fun i => ?_⟩
      · cases vs with
        | nil => simp
        | cons a as => have := h2 (by simp); simp only [List.length_cons] at this ⊢; omega
      · cases i with
        | zero => simp [List.getD]
        | succ i =>
          have := h3 i
          simp only [List.getD_cons_succ, List.length_cons, Nat.zero_le, true_and, Nat.zero_add, Nat.sub_zero] at this ⊢
          rw [this]
          by_cases hi : i < vs.length
          · rw [if_pos hi, if_pos (by omega)]
          · rw [if_neg hi, if_neg (by omega)]
    · cases h
  | x :: l, o + 1, v :: vs, r, h => by
    simp only [spl] at h
    split at h
    · rename_i r' hr
      injection h with h
      subst h
      obtain ⟨h1, h2, h3⟩ := spl_spec l o (v :: vs) r' hr
      refine ⟨by simp [h1], fun _ => by have := h2 (by simp); simp only [List.length_cons] at this ⊢; omega, fun i => ?_⟩
      cases i with
      | zero => rw [if_neg (by omega)]; simp [List.getD]
      | succ i =>
        have := h3 i
        simp only [List.getD_cons_succ]
        rw [this]
        by_cases hi : o ≤ i ∧ i < o + (v :: vs).length
        · rw [if_pos hi, if_pos (by omega), show i + 1 - (o + 1) = i - o by omega]
        · rw [if_neg hi, if_neg (by omega)]
    · cases h

def isAggC (P : Program) (t : TypeId) : Option Bool := match P.underlying t with
  | some (.struct _) | some (.array _ _) => some true
  | some _ => some false
  | none => none
theorem run_isAggC {t : TypeId} {b : Bool} (h : isAggC P t = some b) (w : World) : (isAgg t).run P w = .ok b w := by
  unfold isAggC at h
  unfold Go.isAgg
  split at h
  · rename_i hu; injection h with h; subst h; simp only [Sem.run_bind, run_underlying_of hu, Result.andThen_ok, Sem.run_pure]
  · rename_i hu; injection h with h; subst h; simp only [Sem.run_bind, run_underlying_of hu, Result.andThen_ok, Sem.run_pure]
  · rename_i d h1 h2 hu
    injection h with h
    subst h
    simp only [Sem.run_bind, run_underlying_of hu, Result.andThen_ok]
    rfl
  · cases h
def loadF (P : Program) (t : TypeId) (x : Value) (F : Fw) : Option Value :=
  match x with
  | .pointer (some ⟨b, o, none⟩) => (match F.rd b with
    | some (.cells xs _ _) => (match isAggC P t with
      | some true => (match sizeC P t with
        | some n => (match takeAt xs.toList o n with
          | some r => some (.agg ⟨r⟩)
          | none => none)
        | none => none)
      | some false => getO xs.toList o
      | none => none)
    | _ => none)
  | _ => none
theorem run_load_of {b o : Nat} {v : Value} {c : World} (h : c.cell? ⟨b, o, none⟩ = some v) : (load ⟨b, o, none⟩).run P c = .ok v c := by
  unfold Go.load
  simp only [Sem.run, h]
theorem loadF_eq {t : TypeId} {x v : Value} {F : Fw} (h : loadF P t x F = some v) : runV ((Instr.loadAt t x).run P F.toW) = some (v, F.toW) := by
  unfold loadF at h
  split at h
  · rename_i b o
    split at h
    · rename_i xs e fz hrd
      have hh := F.rd_some hrd
      unfold Instr.loadAt Instr.sureAddr Go.loadVar
      split at h
      · rename_i ha
        split at h
        · rename_i n hn
          split at h
          · rename_i r hr
            injection h with h
            subst h
            obtain ⟨h1, h2, h3⟩ := takeAt_spec _ _ _ _ hr
            have hl := run_loadCells (P := P) F.toW ⟨b, o, none⟩ n (fun j => r.getD j undef) fun j hj => by
              rw [add_none, cell?_of hh]
              simpa using h3 j hj
            rw [map_range_getD r n h1] at hl
            simp only [pure_bind, Sem.run_bind, run_isAggC ha, Result.andThen_ok, if_true, run_sizeC hn, hl, Sem.run_pure]
            rfl
          · cases h
        · cases h
      · rename_i ha
        rw [getO_eq] at h
        have hc : F.toW.cell? ⟨b, o, none⟩ = some v := by rw [cell?_of hh]; simpa using h
        simp only [pure_bind, Sem.run_bind, run_isAggC ha, Result.andThen_ok, Bool.false_eq_true, if_false, run_load_of hc]
        rfl
      · cases h
    · cases h
  · cases h
end Go.Proofs.YtjnimfnelacceaaGreatDoor
namespace Go.Proofs.YtjnimfnelacceaaGreatDoor
open Go.RowKit

variable {P : Program} {B G : Nat} {w0 : World} {L : Lie}

def storeF (P : Program) (B : Nat) (t : TypeId) (x v : Value) (F : Fw) : Option Fw :=
  match x with
  | .pointer (some ⟨b, o, none⟩) => if B ≤ b ∧ big F.n then (match F.rd b with
    | some (.cells xs e fz) => if fz = (0, 0) ∧ v.cells.toList.all one1 = true ∧ sizeC P t = some v.cells.toList.length ∧ v.cells.toList ≠ [] then
        (match spl xs.toList o v.cells.toList with
        | some r => some (F.put b (.cells ⟨r⟩ e (0, 0)))
        | none => none) else none
    | _ => none) else none
  | _ => none
theorem rd_lt {F : Fw} {b : Nat} {o : Obj} (h : F.rd b = some o) : b < F.n := by
  unfold Fw.rd at h
  split at h
  · assumption
  · cases h
theorem one1_eq (v : Value) : one1 v = v.oneCell' := by cases v <;> rfl
theorem storeF_eq {t : TypeId} {x v : Value} {F F1 : Fw} (h : storeF P B t x v F = some F1) :
    ∃ a c1, x = .pointer (some a) ∧ B ≤ a.block ∧ (Instr.storeAt t x v).run P F.toW = .ok () c1 ∧ c1.heap = F1.toW.heap := by
  unfold storeF at h
  split at h
  · rename_i b o
    split at h
    · rename_i hB
      obtain ⟨hB, hbig⟩ := hB
      split at h
      · rename_i xs e fz hrd
        split at h
        · rename_i hc
          obtain ⟨rfl, hone, hsz, hne⟩ := hc
          split at h
          · rename_i r hr
            injection h with h
            subst h
            have hh := F.rd_some hrd
            have hlt := rd_lt hrd
            obtain ⟨h1, h2, h3⟩ := spl_spec _ _ _ _ hr
            have h2 := h2 hne
            have hxs : xs.toList.length = xs.size := by simp
            have hst := run_storeCells_cells (P := P) b o v.cells.toList 0 F.toW (fun j hj => by rw [cell?_of hh, getElem?_of_getD (by omega)]; rfl) (fun j _ => frozen?_zero hh) (fun u hu => by
              rw [← one1_eq]; exact List.all_eq_true.1 hone u hu)
            rw [Nat.add_zero] at hst
            obtain ⟨us', g1, g2, g3, g4, g5, _⟩ := setCells_row b v.cells.toList o F.toW xs e hh (by omega)
            refine ⟨⟨b, o, none⟩, F.toW.setCells b o v.cells.toList, rfl, hB, ?_, ?_⟩
            · unfold Instr.storeAt Instr.sureAddr Go.storeVar
              have hsize : v.cells.toList.length = v.cells.size := by simp
              rw [hsize] at hsz
              simp only [pure_bind, Sem.run_bind, run_sizeC hsz, Result.andThen_ok, ne_eq, not_true, if_false]
              exact hst
            · rw [F.put_heap b _ hlt hbig]
              apply Array.ext_getElem?
              intro i
              rw [Array.getElem?_setIfInBounds, Fw.size]
              by_cases hi : b = i
              · subst hi
                rw [if_pos rfl, if_pos hlt, g1]
                congr 2
                apply Array.ext_getElem?
                intro j
                have e1 : us'.size = r.length := by rw [g2, h1, hxs]
                by_cases hj : j < us'.size
                · have hj2 : j < r.toArray.size := by simpa [← e1] using hj
                  have e2 : (⟨r⟩ : Array Value)[j]? = some ((⟨r⟩ : Array Value).getD j undef) := getElem?_of_getD (by simpa using hj2)
                  rw [getElem?_of_getD hj, e2, g3 j]
                  have e3 : (⟨r⟩ : Array Value).getD j undef = r.getD j undef := (toList_getD ⟨r⟩ j).symm
                  rw [e3, h3 j, toList_getD, toList_getD]
                · rw [Array.getElem?_eq_none (by omega), Array.getElem?_eq_none (by show r.length ≤ j; omega)]
              · rw [if_neg hi, g4 i fun e => hi e.symm]
          · cases h
        · cases h
      · cases h
    · cases h
  · cases h
def zeroC (P : Program) (t : TypeId) : Option Value := if zf P t = true then (P.info? t).bind (·.zero) else none
theorem zeroC_spec {t : TypeId} {z : Value} (h : zeroC P t = some z) : zf P t = true ∧ ∀ w, (zeroValue t).run P w = .ok z w := by
  unfold zeroC at h
  split at h
  · exact ⟨by assumption, fun w => run_zeroValue_of h w⟩
  · cases h
def newF (F : Fw) (e : TypeId) (cells : Array Value) : Option (Value × Fw) := if big F.n then some (.pointer (some ⟨F.n, 0, none⟩), F.push (.cells cells e)) else none
def sliceNewF (F : Fw) (e : TypeId) (cells : Array Value) (len : Nat) : Option (Value × Fw) := if big F.n then some (.slice (some ⟨F.n, 0, none⟩) len len, F.push (.cells cells e)) else none
/-- A list without elements. -/
def noCells : Nat → List (Nat × Value) → Option (Array Value)
  | 0, [] => some #[]
  | _, _ => none
def bsCells (P : Program) (elem : TypeId) (len : Nat) (parts : List (Nat × Value)) : Option (Array Value) :=
  match sizeC P elem, zeroC P elem with
  | some n, some z => if len * n ≤ 10000 ∧ len * n ≠ 0 then Instr.fill (fun i => some (i * n, n)) ((Array.range (len * n)).map (z.cells[· % z.cells.size]!)) parts else noCells (len * n) parts
  | _, _ => none
theorem buildSliceF_eq {t elem : TypeId} {len : Nat} {ps : Array (Nat × Value)} {cells : Array Value} (hu : P.underlying t = some (.slice elem)) (h : bsCells P elem len ps.toList = some cells) (c : World) :
    (Instr.buildSlice t len ps).run P c = .ok (.slice (some ⟨c.heap.size, 0, none⟩) len len) { c with heap := c.heap.push (.cells cells elem) } ∧ elemOk P t = true := by
  unfold bsCells at h
  split at h
  · rename_i n z hn hz
    split at h
    · rename_i hc
      obtain ⟨hzf, hzr⟩ := zeroC_spec hz
      refine ⟨?_, by unfold elemOk; rw [hu]; exact hzf⟩
      unfold Instr.buildSlice
      have h1 : ¬ (len * n > 2 ^ 24) := by omega
      simp only [Sem.run_bind, run_underlying_of hu, Result.andThen_ok, run_sizeC hn, h1, if_false, hc.2, hzr, Sem.run_pure, h]
      rfl
    · obtain ⟨hzf, hzr⟩ := zeroC_spec hz
      refine ⟨?_, by unfold elemOk; rw [hu]; exact hzf⟩
      unfold noCells at h
      split at h
      · rename_i h0 hp
        injection h with h
        subst h
        unfold Instr.buildSlice
        have h2 : ¬ ((0 : Nat) > 2 ^ 24) := by omega
        simp only [Sem.run_bind, run_underlying_of hu, Result.andThen_ok, run_sizeC hn, h0, hp, h2, if_false, if_true, Sem.run_pure, show Array.range 0 = #[] from by simp, List.map_toArray, List.map_nil, Instr.fill]
        rfl
      · cases h
  · cases h
def makeCells (P : Program) (elem : TypeId) (len : Nat) : Option (Array Value) :=
  match P.info? elem, zeroC P elem with
  | some i, some z => if len ≤ 10000 ∧ i.bytes ≤ 10000 ∧ len * i.size ≠ 0 then some ((Array.range (len * i.size)).map (z.cells[· % z.cells.size]!)) else none
  | _, _ => none
theorem wrap_small (l : Nat) (h : l ≤ 10000) : IntKind.i64.wrap (l : Int) = l := by
  have e : ((l : Int) % 2 ^ 64) = l := by omega
  unfold IntKind.wrap
  simp only [IntKind.bits, IntKind.signed, e]
  rw [if_neg]
  simp only [Bool.true_and, decide_eq_true_eq]
  omega
theorem makeSliceF_eq {t elem : TypeId} {len : Nat} {cells : Array Value} {k k' : IntKind} (hu : P.underlying t = some (.slice elem)) (h : makeCells P elem len = some cells) (c : World) :
    (Instr.makeSlice t (.int k len) (.int k' len)).run P c = .ok (.slice (some ⟨c.heap.size, 0, none⟩) len len) { c with heap := c.heap.push (.cells cells elem) } ∧ elemOk P t = true := by
  unfold makeCells at h
  split at h
  · rename_i i z hi hz
    split at h
    · rename_i hc
      obtain ⟨h1, h2, h3⟩ := hc
      injection h with h
      subst h
      obtain ⟨hzf, hzr⟩ := zeroC_spec hz
      refine ⟨?_, by unfold elemOk; rw [hu]; exact hzf⟩
      have hsz : (P.info? elem).map (·.size) = some i.size := by rw [hi]; rfl
      have hb : (i.bytes : Int) * len ≤ 100000000 := by
        have : i.bytes * len ≤ 10000 * 10000 := Nat.mul_le_mul h2 h1
        have e : ((i.bytes * len : Nat) : Int) = (i.bytes : Int) * len := Int.natCast_mul _ _
        omega
      have t1 : ((len : Int) < 0 || (i.bytes : Int) * len > 2 ^ 48) = false := by
        rw [Bool.or_eq_false_iff]
        exact ⟨by simp, by simp only [decide_eq_false_iff_not]; omega⟩
      unfold Instr.makeSlice
      simp only [Sem.run_bind, run_underlying_of hu, Result.andThen_ok, asInt, asIntOf, pure_bind, Sem.run_pure, run_typeInfo_of hi, wrap_small len h1]
      have t2 : ((((len : Int) < 0 || (i.bytes : Int) * len > 2 ^ 48) || decide ((len : Int) < 0)) || decide ((len : Int) > len)) = false := by
        rw [t1]; simp
      simp only [t2, Bool.false_eq_true, if_false]
      have hq : (askRoom (len * i.bytes)).run P c = .ok () c := by unfold Go.askRoom; split <;> rfl
      simp only [Sem.run_bind, Int.toNat_natCast, hq, Result.andThen_ok, run_sizeC hsz, h3, if_false, hzr, Sem.run_pure]
      rfl
    · cases h
  · cases h
def sliceF (P : Program) (t : TypeId) (x low : Value) (F : Fw) : Option Value :=
  match P.underlying t, x, low with
  | some (.slice elem), .slice (some a) len cap, .int _ i =>
    (match sizeC P elem with
    | some n => (match F.rd a.block with
      | some (.cells _ e _) => if 0 ≤ i ∧ i ≤ len ∧ i.toNat < cap ∧ a.spot = none ∧ P.cellsOf e = P.cellsOf elem then some (.slice (some ⟨a.block, a.off + i.toNat * n, none⟩) (len - i.toNat) (cap - i.toNat)) else none
      | _ => none)
    | none => none)
  | _, _, _ => none
theorem sliceF_eq {t : TypeId} {x low v : Value} {F : Fw} (h : sliceF P t x low F = some v) : sliceC P t x low F.toW = some v := by
  unfold sliceF at h
  split at h
  · rename_i elem a len cap k i hu
    split at h
    · rename_i n hn
      split at h
      · rename_i xs e fz hrd
        split at h
        · rename_i hc
          obtain ⟨h1, h2, h3, h4, h5⟩ := hc
          unfold sliceC
          simp only [hu]
          have hn' : (P.info? elem).map (·.size) = some n := hn
          simp only [hn']
          have hro : rowOk P elem F.toW a.block = true := by
            unfold rowOk
            simp only [F.rd_some hrd, h5, beq_self_eq_true]
          rw [if_pos ⟨h1, h2, h3, h4, hro⟩]
          exact h
        · cases h
      · cases h
    · cases h
  · cases h
def lookupF (P : Program) (t : TypeId) (x k : Value) (ok : Bool) (F : Fw) : Option Value :=
  match P.underlying t with
  | some (.map kt et) => (match P.underlying kt, (P.info? et).bind (·.zero) with
    | some .string, some z => if flatV z = true then (match x, k with
      | .map (some r), .string s => (match F.rd r with
        | some (.map es _) => (match findS s.data.toList es.toList with
          | some (some v) => some (if ok then .tuple #[v, .bool true] else v)
          | some none => some (if ok then .tuple #[z, .bool false] else z)
          | none => none)
        | _ => none)
      | _, _ => none) else none
    | _, _ => none)
  | _ => none
theorem lookupF_eq {t : TypeId} {x k v : Value} {ok : Bool} {F : Fw} (h : lookupF P t x k ok F = some v) : lookupC P t x k ok F.toW = some v := by
  unfold lookupF at h
  unfold lookupC
  split at h
  · rename_i kt et hu
    simp only [hu]
    split at h
    · rename_i z h1 h2
      simp only [h1, h2]
      split at h
      · rename_i hf
        rw [if_pos hf]
        split at h
        · rename_i r s
          split at h
          · rename_i es n hrd
            simp only [F.rd_some hrd]
            exact h
          · cases h
        · cases h
      · cases h
    · cases h
  · cases h
def updateF (P : Program) (B : Nat) (t : TypeId) (m k x : Value) (F : Fw) : Option Fw :=
  match P.underlying t with
  | some (.map kt _) => (match P.underlying kt with
    | some .string => (match m, k with
      | .map (some r), .string s => if B ≤ r ∧ big F.n then (match F.rd r with
        | some (.map es n) => (match findS s.data.toList es.toList with
          | some none => some (F.put r (.map (es.push { key := .string s, val := x, born := n }) (n + 1)))
          | _ => none)
        | _ => none) else none
      | _, _ => none)
    | _ => none)
  | _ => none
theorem updateF_eq {t : TypeId} {m k x : Value} {F F1 : Fw} (h : updateF P B t m k x F = some F1) : ∃ c1, updateC P B t m k x F.toW = some c1 ∧ c1.heap = F1.toW.heap := by
  unfold updateF at h
  unfold updateC
  split at h
  · rename_i kt et hu
    simp only [hu]
    split at h
    · rename_i hk
      simp only [hk]
      split at h
      · rename_i r s
        split at h
        · rename_i hB
          obtain ⟨hB, hbig⟩ := hB
          dsimp only
          rw [if_pos hB]
          split at h
          · rename_i es n hrd
            simp only [F.rd_some hrd]
            split at h
            · rename_i hf
              injection h with h
              subst h
              simp only [hf]
              exact ⟨_, rfl, (F.put_heap r _ (rd_lt hrd) hbig).symm⟩
            · cases h
          · cases h
        · cases h
      · cases h
    · cases h
  · cases h

/-! ### Append -/
def cellsF (F : Fw) (a : Option Addr) (n : Nat) : Option (List Value) :=
  match a with
  | none => if n = 0 then some [] else none
  | some ⟨b, o, none⟩ => (match F.rd b with
    | some (.cells xs _ _) => if o ≤ xs.toList.length then takeAt xs.toList o n else none
    | _ => none)
  | _ => none
theorem cellsF_eq {F : Fw} {a : Option Addr} {n : Nat} {r : List Value} (h : cellsF F a n = some r) : cellsAt F.toW a n = some ⟨r⟩ := by
  unfold cellsF at h
  unfold cellsAt
  split at h
  · split at h
    · rename_i hn
      injection h with h
      subst h
      rw [if_pos hn]
    · cases h
  · rename_i b o
    split at h
    · rename_i xs e fz hrd
      split at h
      · rename_i ho
        simp only [F.rd_some hrd]
        obtain ⟨h1, h2, h3⟩ := takeAt_spec _ _ _ _ h
        have hs : xs.toList.length = xs.size := by simp
        have hle : o + n ≤ xs.size := by
          by_cases hn : n = 0
          · omega
          · have := h2 hn; omega
        rw [if_pos ⟨trivial, hle⟩]
        congr 1
        apply Array.ext_getElem?
        intro j
        by_cases hj : j < n
        · have e1 : (xs.extract o (o + n))[j]? = xs[o + j]? := by
            rw [Array.getElem?_extract, if_pos (by omega)]
          have e2 : (⟨r⟩ : Array Value)[j]? = some (r.getD j undef) := by
            have : (⟨r⟩ : Array Value)[j]? = some ((⟨r⟩ : Array Value).getD j undef) := getElem?_of_getD (by show j < r.length; omega)
            rw [this, ← toList_getD]
          rw [e1, e2]
          have := h3 j hj
          simpa using this
        · rw [Array.getElem?_eq_none (by simp only [Array.size_extract]; omega), Array.getElem?_eq_none (by show r.length ≤ j; omega)]
      · cases h
    · cases h
  · cases h
def appendF (P : Program) (B : Nat) (t t2 : TypeId) (x y : Value) (F : Fw) : Option (Value × Fw) :=
  match P.underlying t, P.underlying t2, x, y with
  | some (.slice elem), some (.slice _), .slice base sl sc, .slice yb yl _ =>
    (match P.info? elem with
    | some i => (match i.zero with
      | some z =>
        if z.cells.size = i.size ∧ z.cells.all flat1 = true ∧ i.bytes ≤ 10000 ∧ sl + yl ≤ 10000 ∧ big F.n then
          (match cellsF F yb (yl * i.size) with
          | some ys =>
            if ys.all one1 = true then
              (if sl + yl ≤ sc then (if yl = 0 then some (x, F) else none)
              else match base with
                | none => if sl = 0 then some (.slice (some ⟨F.n, 0, none⟩) yl yl, F.push (.cells ⟨ys⟩ elem)) else none
                | some ⟨b, o, s⟩ => (match F.rd b with
                  | some (.cells xs e _) => if B ≤ b ∧ e = elem ∧ xs.size = sl * i.size ∧ o = 0 ∧ s = none then
                      some (.slice (some ⟨F.n, 0, none⟩) (sl + yl) (sl + yl), (F.put b (.coro none)).push (.cells ⟨xs.toList ++ ys⟩ elem)) else none
                  | _ => none))
            else none
          | none => none)
        else none
      | none => none)
    | none => none)
  | _, _, _, _ => none
theorem appendF_eq {t t2 : TypeId} {x y v : Value} {F F1 : Fw} (h : appendF P B t t2 x y F = some (v, F1)) : ∃ c1, appendC P B t t2 x y F.toW = some (v, c1) ∧ c1.heap = F1.toW.heap := by
  unfold appendF at h
  unfold appendC
  split at h
  · rename_i elem e2 base sl sc yb yl yk hu hu2
    simp only [hu, hu2]
    split at h
    · rename_i i hi
      simp only [hi]
      split at h
      · rename_i z hz
        simp only [hz]
        split at h
        · rename_i hc
          obtain ⟨c1, c2, c3, c4, hbig⟩ := hc
          rw [if_pos ⟨c1, c2, c3, c4⟩]
          split at h
          · rename_i ys hys
            simp only [cellsF_eq hys]
            split at h
            · rename_i hone
              have hone' : (⟨ys⟩ : Array Value).all one1 = true := by rw [← Array.all_toList]; exact hone
              rw [if_pos hone']
              split at h
              · rename_i hle
                rw [if_pos hle]
                split at h
                · rename_i h0
                  rw [if_pos h0]
                  injection h with h
                  injection h with h1 h2
                  subst h1 h2
                  exact ⟨_, rfl, rfl⟩
                · cases h
              · rename_i hle
                rw [if_neg hle]
                split at h
                · split at h
                  · rename_i h0
                    dsimp only
                    rw [if_pos h0]
                    injection h with h
                    injection h with h1 h2
                    subst h1 h2
                    exact ⟨_, by rw [Fw.size], (F.push_heap _ hbig).symm⟩
                  · cases h
                · rename_i b o s
                  split at h
                  · rename_i xs e fz hrd
                    split at h
                    · rename_i hcc
                      simp only [F.rd_some hrd]
                      rw [if_pos hcc]
                      injection h with h
                      injection h with h1 h2
                      subst h1 h2
                      refine ⟨_, by rw [Fw.size], ?_⟩
                      have e1 : (⟨xs.toList ++ ys⟩ : Array Value) = xs ++ ⟨ys⟩ := by apply Array.ext'; simp
                      rw [Fw.push_heap (F.put b (.coro none)) _ hbig, F.put_heap b _ (rd_lt hrd) hbig, e1]
                    · cases h
                  · cases h
            · cases h
          · cases h
        · cases h
      · cases h
    · cases h
  · cases h
end Go.Proofs.YtjnimfnelacceaaGreatDoor

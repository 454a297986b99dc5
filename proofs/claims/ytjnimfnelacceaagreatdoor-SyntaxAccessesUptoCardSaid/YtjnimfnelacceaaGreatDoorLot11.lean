/- Scan. The one token that a string is. Check and Number of tokens. -/
import Derived.Test.YtjnimfnelacceaaGreatDoorLot10
import Derived.OwnWalk
import Derived.StillTailTactics
import Derived.IntWalk
set_option linter.unusedSimpArgs false
set_option linter.unusedVariables false
namespace Go.Proofs.YtjnimfnelacceaaGreatDoor
open Go.RowKit

theorem ext_data (s : ByteArray) (a n : Nat) : (s.extract a (a + n)).data.toList = (s.data.toList.drop a).take n := by
  have := ext_list s a n
  rwa [Lib.toList_data] at this
theorem str_eta (b : ByteArray) (l : List UInt8) (h : b.data.toList = l) : b = ⟨⟨l⟩⟩ := by subst h; rfl
/-- A token under way. -/
structure TkAt (w1 wr wx : World) (l : List UInt8) (x : Pc) (tb : Nat) : Prop where
  low : Below wr.heap.size wr wx
  c0 : wx.cell? ⟨tb, 0, none⟩ = some (.int .i64 (tokOf l x).kind)
  c1 : wx.cell? ⟨tb, 1, none⟩ = some (.int .i64 (tokOf l x).num)
  c2 : wx.cell? ⟨tb, 2, none⟩ = some (.string ⟨⟨(tokOf l x).text⟩⟩)
  c3 : wx.cell? ⟨tb, 3, none⟩ = some (.int .i64 (tokOf l x).at_)
  c4 : wx.cell? ⟨tb, 4, none⟩ = some (.int .i64 0)
theorem neq_int (a b : Nat) (h : a ≠ b) : ((a : Int) != (b : Int)) = true := by rw [bne_iff_ne]; omega
set_option maxRecDepth 100000 in
set_option maxHeartbeats 4000000 in
theorem scan_any (s : ByteArray) (w : World) (hE : Env w) (hs : s.size ≤ maxLen) (h9 : 9 ≤ w.heap.size) : Calls Tryz.prog 26 #[.string s] w (ScanEnd s w) := by
  have hp := Lib.hid (pieces_any s w hE hs h9)
  unfold maxLen at hs
  obtain ⟨i0, hi, hz0, hz1, hz2⟩ := info_parts tkInfo
  by_cases hbig : 20000 < s.size
  · go_enter Tryz.func26, Tryz.ntmps26
    go_wp2_with fail
    refine hp.out.mono ?_
    rintro e w1 ⟨hb, he⟩
    rw [if_pos hbig] at he
    subst he
    have HB := Lib.hid hb
    clear hb
    go_wp2
    exact bodyPost_ret (v := .tuple #[.slice none 0 0, .int .i64 0, .int .i64 2]) (by simp [results, Tryz.results26, go_sem]) rfl ⟨HB.out, by rw [if_pos hbig]⟩
  · cases hpc : (piecesL s.data.toList).2 with
    | some q =>
      obtain ⟨p, er⟩ := q
      have her := neq_int er 0 (piecesL_er hpc)
      have HP := Lib.hid hpc
      clear hpc
      go_enter Tryz.func26, Tryz.ntmps26
      go_wp2_with fail
      refine hp.out.mono ?_
      rintro e w1 ⟨hb, he⟩
      rw [if_neg hbig, HP.out] at he
      simp only at he
      subst he
      have HB := Lib.hid hb
      clear hb
      go_wp2
      exact bodyPost_ret (v := .tuple #[.slice none 0 0, .int .i64 p, .int .i64 er]) (by simp [results, Tryz.results26, go_sem]) rfl ⟨HB.out, by rw [if_neg hbig, HP.out]⟩
    | none =>
      have HP := Lib.hid hpc
      clear hpc
      go_enter Tryz.func26, Tryz.ntmps26
      go_wp2_with fail
      refine hp.out.mono ?_
      rintro e w1 ⟨hb, he⟩
      rw [if_neg hbig, HP.out] at he
      simp only at he
      obtain ⟨v, rfl, hown⟩ := he
      have hE1 := Lib.hid (hE.below hb)
      have HB := Lib.hid hb
      have hpl := piecesL_len s.data.toList
      rw [len_data] at hpl
      have HIN := Lib.hid (piecesL_in s.data.toList)
      generalize hps : (piecesL s.data.toList).1 = ps at *
      have HPS := Lib.hid hps
      have HO := Lib.hid hown
      have hb1 := hb.size
      clear hb hE hps
      rcases hown.2 with ⟨rfl, hn⟩ | ⟨g, cap, cur, rfl, hg0, hgb, hcap, _⟩
      · have hps0 : ps = [] := List.length_eq_zero_iff.1 hn
        subst hps0
        clear hown
        go_wp2_with fail
        go_loopw [8, 24] (fun v8 v24 wr => v8 = .slice none 0 0 ∧ v24 = .int .i64 0 ∧ wr = w1) (fun _ v24 _ => 0)
        case atStart => exact ⟨rfl, rfl, rfl⟩
        case round =>
          obtain ⟨rfl, rfl, rfl⟩ := hrel
          go_wp2
          refine bodyPost_ret (v := .tuple #[.slice none 0 0, .int .i64 0, .int .i64 0]) (by simp [results, Tryz.results26, go_sem]) rfl ⟨HB.out, ?_⟩
          rw [if_neg hbig, HP.out]
          refine ⟨_, rfl, ?_⟩
          rw [HPS.out]
          exact World.ownsRow_nil _ _ _ _
      · clear hown
        go_wp2_with fail
        have hgl : g < w1.heap.size := (Array.getElem?_eq_some_iff.1 hgb).1
        clear hgb
        go_loopw [8, 24] (fun v8 v24 wr => ∃ k : Nat, k ≤ ps.length ∧ v24 = .int .i64 k ∧ Hid (Below w1.heap.size w1 wr ∧ wr.ownsRow w1.heap.size 127 5 v8 (toksL s.data.toList (ps.take k)).length (rowTk (toksL s.data.toList (ps.take k))))) (fun _ v24 _ => ps.length - (intOf v24).toNat)
        case atStart => exact ⟨0, Nat.zero_le _, rfl, Lib.hid ⟨Below.refl _ _, World.ownsRow_nil _ _ _ _⟩⟩
        case round =>
          obtain ⟨k, hk, rfl, HR⟩ := hrel
          by_cases hlt : k < ps.length
          · have hd : decide ((k : Int) < ps.length) = true := by simp; omega
            obtain ⟨x, hx⟩ : ∃ x, ps[k]? = some x := ⟨_, List.getElem?_eq_getElem hlt⟩
            have hxi := HIN.out x (List.mem_of_getElem? hx)
            rw [len_data] at hxi
            have hbw := HR.out.1
            have hbs := hbw.size
            have hcell : ∀ j u, (rowPc ps)[j]? = some u → wr.cell? ⟨g, j, none⟩ = some u := fun j u h => by
              have h := below_cell hbw (HO.out.cells rfl j u h)
              have e : (⟨g, 0, none⟩ : Addr).add j = ⟨g, j, none⟩ := by unfold Addr.add; split <;> simp_all
              rw [← e]; exact h
            obtain ⟨r0, r1, r2⟩ := rowPc_get hx
            have p0 := hcell _ _ r0
            have p1 := hcell _ _ r1
            have p2 := hcell _ _ r2
            clear hcell r0 r1 r2 hbw
            have hk0 : (0 : Int) ≤ k := by omega
            have hk1 : (k : Int) < ps.length := by omega
            have HX := Lib.hid hx
            clear hx
            have hgr : g < wr.heap.size := by omega
            have hgr' : g ≠ wr.heap.size := by omega
            by_cases hk6 : x.kind ≤ 6
            · have d6 : decide ((6 : Int) < x.kind) = false := decide_eq_false (by omega)
              have q1 : (0 : Int) ≤ x.at_ := by omega
              have q2 : (x.at_ : Int) ≤ x.at_ + x.len := by omega
              have q3 : (x.at_ : Int) + x.len ≤ s.size := by omega
              go_wp2_with fail
              have w1e : IntKind.i64.wrap ((x.at_ : Int) + x.len) = (x.at_ : Int) + x.len := IntWalk.i64_in _ (by omega)
              have w2e : ((x.at_ : Int) + x.len).toNat = x.at_ + x.len := by omega
              have w3e : (0 : Int) ≤ (x.at_ : Int) + x.len := by omega
              go_region
              clear w1e w2e w3e
              go_upto_if 47 with fail
              go_cut [] (fun wx => Hid (TkAt w1 wr wx s.data.toList x (wr.heap.size + 1)))
              case first =>
                have hxt := ext_data s x.at_ x.len
                have hEr := Lib.hid (hE1.out.below HR.out.1)
                have htx : s.extract x.at_ (x.at_ + x.len) = ⟨⟨(s.data.toList.drop x.at_).take x.len⟩⟩ := str_eta _ _ hxt
                have htsz : (s.extract x.at_ (x.at_ + x.len)).size ≤ 1000000 := by
                  rw [← len_data, hxt, List.length_take, List.length_drop, len_data]; omega
                have hv := fun w (h : Env w) => value_any (s.extract x.at_ (x.at_ + x.len)) w htsz h
                rw [hxt] at hv
                have HV := Lib.hid hv
                have HT := Lib.hid htx
                clear hv hxt htx htsz
                by_cases h2 : x.kind = 2
                · have e2 : ((x.kind : Int) == 2) = true := beq_iff_eq.2 (by omega)
                  have hnum : (tokOf s.data.toList x).num = (valueL ((s.data.toList.drop x.at_).take x.len)).1 := by unfold tokOf; simp only; rw [if_pos h2]
                  have HN := Lib.hid hnum
                  clear hnum
                  go_wp2_with fail
                  refine (HV.out _ (hEr.out.below (below_drewN (((Below.refl _ _).alloc (Nat.le_refl _) _).alloc (by simp) _) 1))).mono ?_
                  rintro e w3 ⟨rfl, hb3⟩
                  have hk2 : ((x.kind : Nat) : Int) = 2 := by omega
                  have t0 : w3.cell? ⟨wr.heap.size + 1, 0, none⟩ = some (.int .i64 2) := below_cell hb3 (by simp [go_sem])
                  have t1 : w3.cell? ⟨wr.heap.size + 1, 1, none⟩ = some (.int .i64 0) := below_cell hb3 (by simp [go_sem])
                  have t2 : w3.cell? ⟨wr.heap.size + 1, 2, none⟩ = some (.string (s.extract x.at_ (x.at_ + x.len))) := below_cell hb3 (by simp [go_sem])
                  have t3 : w3.cell? ⟨wr.heap.size + 1, 3, none⟩ = some (.int .i64 x.at_) := below_cell hb3 (by simp [go_sem])
                  have t4 : w3.cell? ⟨wr.heap.size + 1, 4, none⟩ = some (.int .i64 0) := below_cell hb3 (by simp [go_sem])
                  have f1 : w3.frozen? ⟨wr.heap.size + 1, 1, none⟩ = false := (hb3.frozen (p := ⟨wr.heap.size + 1, 1, none⟩) (by simp [World.drew])).trans (by simp [go_sem])
                  have hlow : Below wr.heap.size wr w3 := (below_drewN (((Below.refl wr.heap.size wr).alloc (Nat.le_refl _) _).alloc (by simp) _) 1).trans (hb3.mono (by simp [World.drew]; omega))
                  have HL := Lib.hid hlow
                  clear hlow hb3
                  have HK2 := Lib.hid hk2
                  clear hk2
                  go_wp2_with fail
                  go_meet
                  refine Lib.hid ⟨HL.out.setCell (p := ⟨wr.heap.size + 1, 1, none⟩) (by simp) _, ?_, ?_, ?_, ?_, ?_⟩
                  · simp [go_sem, t0, t1]; exact HK2.out.symm
                  · simp [go_sem, t1]; rw [HN.out]
                  · simp [go_sem, t2, t1]; exact HT.out
                  · simp [go_sem, t3, t1]; rfl
                  · simp [go_sem, t4, t1]
                · have e2 : ((x.kind : Int) == 2) = false := beq_eq_false_iff_ne.2 (by omega)
                  have hnum : (tokOf s.data.toList x).num = 0 := by unfold tokOf; simp only; rw [if_neg h2]
                  have HN := Lib.hid hnum
                  clear hnum
                  go_wp2_with fail
                  go_meet
                  refine Lib.hid ⟨below_drewN (((Below.refl _ _).alloc (Nat.le_refl _) _).alloc (by simp) _) 1, ?_, ?_, ?_, ?_, ?_⟩
                  · simp [go_sem]; rfl
                  · simp [go_sem]; exact HN.out.symm
                  · simp [go_sem]; exact HT.out
                  · simp [go_sem]; rfl
                  · simp [go_sem]
              case rest =>
                have HT := hcut
                clear hcut
                have c0 := HT.out.c0
                have c1 := HT.out.c1
                have c2 := HT.out.c2
                have c3 := HT.out.c3
                have c4 := HT.out.c4
                have hlw := HT.out.low.size
                have hlen : (toksL s.data.toList (ps.take k)).length ≤ 20000 := by
                  have h1 := toksL_le s.data.toList (ps.take k)
                  have h2 : (ps.take k).length ≤ k := List.length_take_le _ _
                  omega
                have hrow := HR.out.2.kept (grownBy_of_below HT.out.low) (by cases u8.ownBlock <;> simp)
                have HBC := Lib.hid (HR.out.1.trans (HT.out.low.mono hbs))
                have hsnoc : toksL s.data.toList (ps.take (k + 1)) = toksL s.data.toList (ps.take k) ++ [tokOf s.data.toList x] := by
                  rw [List.take_add_one, HX.out]
                  exact toksL_snoc_in _ _ _ hk6
                have HSN := Lib.hid hsnoc
                clear hsnoc
                generalize hN : (toksL s.data.toList (ps.take k)).length = N at *
                have HN := Lib.hid hN
                clear hN
                generalize hK : (tokOf s.data.toList x).kind = tk at *
                generalize hM : (tokOf s.data.toList x).num = tn at *
                generalize hT : (tokOf s.data.toList x).text = tx at *
                generalize hA : (tokOf s.data.toList x).at_ = ta at *
                have HE := Lib.hid (show encTk (tokOf s.data.toList x) = [.int .i64 tk, .int .i64 tn, .string ⟨⟨tx⟩⟩, .int .i64 ta, .int .i64 0] by unfold encTk; rw [hK, hM, hT, hA])
                clear hK hM hT hA
                have hN1 : N + 1 ≤ maxLen := by unfold maxLen; omega
                go_wp2_with (at_builtin; refine wpList_append_own _ rfl _ _ 41 rfl w1.heap.size 127 i0 _ 5 48 Tryz.underlying41 hi hz0 hz1 hz2 rfl (by decide) u8 N _ rfl (hrow.alloc _) ⟨wc.heap.size, 0, none⟩ 1 1 [.int .i64 tk, .int .i64 tn, .string ⟨⟨tx⟩⟩, .int .i64 ta, .int .i64 0] rfl rfl (by intro j u hj; match j, hj with | 0, hj => (simp at hj; subst hj; simp [Addr.add]) | 1, hj => (simp at hj; subst hj; simp [Addr.add]) | 2, hj => (simp at hj; subst hj; simp [Addr.add]) | 3, hj => (simp at hj; subst hj; simp [Addr.add]) | 4, hj => (simp at hj; subst hj; simp [Addr.add]) | j + 5, hj => simp at hj) (by simp [Value.oneCell']) (by omega) (by omega) (by simp; omega) ?_; intro v' w5 hown' hgrow _)
                have hfin : Below w1.heap.size w1 w5 := (HBC.out.alloc (by omega) _).grown hgrow (by simp; omega) fun j ej => ((hrow.alloc (.cells #[.int .i64 tk, .int .i64 tn, .string ⟨⟨tx⟩⟩, .int .i64 ta, .int .i64 0] 127)).lt j ej).1
                have HF := Lib.hid (show Below w1.heap.size w1 w5 ∧ w5.ownsRow w1.heap.size 127 5 v' (toksL s.data.toList (ps.take (k + 1))).length (rowTk (toksL s.data.toList (ps.take (k + 1)))) from ⟨hfin, by rw [HSN.out, rowTk_snoc, HE.out, List.length_append, HN.out]; exact hown'⟩)
                clear hfin hown' hgrow hrow
                go_roundw
                case rel => exact ⟨k + 1, by omega, by go_num, HF⟩
                case measure => simp [intOf]; omega
            · have d6 : decide ((6 : Int) < x.kind) = true := decide_eq_true (by omega)
              have hsnoc : toksL s.data.toList (ps.take (k + 1)) = toksL s.data.toList (ps.take k) := by
                rw [List.take_add_one, HX.out]
                exact toksL_snoc_out _ _ _ hk6
              have HF := Lib.hid (show Below w1.heap.size w1 (wr.alloc (.cells #[.int .i64 x.kind, .int .i64 x.at_, .int .i64 x.len] 125)) ∧ (wr.alloc (.cells #[.int .i64 x.kind, .int .i64 x.at_, .int .i64 x.len] 125)).ownsRow w1.heap.size 127 5 u8 (toksL s.data.toList (ps.take (k + 1))).length (rowTk (toksL s.data.toList (ps.take (k + 1)))) from ⟨HR.out.1.alloc hbs _, by rw [hsnoc]; exact HR.out.2.alloc _⟩)
              clear hsnoc
              go_wp2
              go_roundw
              case rel => exact ⟨k + 1, by omega, by go_num, HF⟩
              case measure => simp [intOf]; omega
          · have hd : decide ((k : Int) < ps.length) = false := by simp; omega
            have hek : k = ps.length := by omega
            subst hek
            rw [List.take_length] at HR
            go_wp2
            refine bodyPost_ret (v := .tuple #[u8, .int .i64 0, .int .i64 0]) (by simp [results, Tryz.results26, go_sem]) rfl ⟨below_then HB.out HR.out.1, ?_⟩
            rw [if_neg hbig, HP.out]
            refine ⟨_, rfl, ?_⟩
            rw [HPS.out]
            exact ownsRow_base HR.out.2 hb1
end Go.Proofs.YtjnimfnelacceaaGreatDoor
namespace Go.Proofs.YtjnimfnelacceaaGreatDoor
open Go.RowKit

def singleL (l : List UInt8) : Option Tk :=
  if 20000 < l.length then none else
  match (piecesL l).2 with
  | some _ => none
  | none => match toksL l (piecesL l).1 with
    | [t] => if t.text = l then some t else none
    | _ => none
def kindL (l : List UInt8) : Nat := match singleL l with
  | some t => t.kind
  | none => 0
def tkV (t : Option Tk) : Value := match t with
  | some t => .agg ⟨encTk t⟩
  | none => .agg #[.int .i64 0, .int .i64 0, .string ⟨#[]⟩, .int .i64 0, .int .i64 0]
def SingleEnd (l : List UInt8) (w : World) (e : Ending) (w' : World) : Prop := e = .returned (.tuple #[tkV (singleL l), .bool (singleL l).isSome]) ∧ Below w.heap.size w w'

theorem zero_tok {w w1 : World} (hb : Below (w.alloc (.cells #[.int .i64 0, .int .i64 0, .string ⟨#[]⟩, .int .i64 0, .int .i64 0] 127)).heap.size (w.alloc (.cells #[.int .i64 0, .int .i64 0, .string ⟨#[]⟩, .int .i64 0, .int .i64 0] 127)) w1) :
    (∀ o, w1.frozen? ⟨w.heap.size, o, none⟩ = false) ∧ w1.cell? ⟨w.heap.size, 0, none⟩ = some (.int .i64 0) ∧ w1.cell? ⟨w.heap.size, 1, none⟩ = some (.int .i64 0) ∧ w1.cell? ⟨w.heap.size, 2, none⟩ = some (.string ⟨#[]⟩) ∧
    w1.cell? ⟨w.heap.size, 3, none⟩ = some (.int .i64 0) ∧ w1.cell? ⟨w.heap.size, 4, none⟩ = some (.int .i64 0) ∧ w.heap.size < w1.heap.size :=
  ⟨fun o => (hb.frozen (p := ⟨w.heap.size, o, none⟩) (by simp)).trans (by simp [go_sem]), below_cell hb (by simp [go_sem]), below_cell hb (by simp [go_sem]), below_cell hb (by simp [go_sem]), below_cell hb (by simp [go_sem]), below_cell hb (by simp [go_sem]), by have := hb.size; simp at this; omega⟩
theorem below_set5 {w w1 : World} (h : Below w.heap.size w w1) (a b c d e : Value) : Below w.heap.size w (((((w1.setCell ⟨w.heap.size, 0, none⟩ a).setCell ⟨w.heap.size, 1, none⟩ b).setCell ⟨w.heap.size, 2, none⟩ c).setCell ⟨w.heap.size, 3, none⟩ d).setCell ⟨w.heap.size, 4, none⟩ e) :=
  ((((h.setCell (p := ⟨w.heap.size, 0, none⟩) (Nat.le_refl _) _).setCell (p := ⟨w.heap.size, 1, none⟩) (Nat.le_refl _) _).setCell (p := ⟨w.heap.size, 2, none⟩) (Nat.le_refl _) _).setCell (p := ⟨w.heap.size, 3, none⟩) (Nat.le_refl _) _).setCell (p := ⟨w.heap.size, 4, none⟩) (Nat.le_refl _) _
set_option maxRecDepth 100000 in
set_option maxHeartbeats 4000000 in
theorem single_any (s : ByteArray) (w : World) (hE : Env w) (hs : s.size ≤ maxLen) (h9 : 9 ≤ w.heap.size) : Calls Tryz.prog 125 #[.string s] w (SingleEnd s.data.toList w) := by
  have hp := fun w (h : Env w) h9 => scan_any s w h hs h9
  have HP := Lib.hid hp
  clear hp
  unfold maxLen at hs
  have HE := Lib.hid hE
  have hsz := len_data s
  have HZ := Lib.hid hsz
  clear hE hsz
  by_cases hbig : 20000 < s.size
  · have hsi : singleL s.data.toList = none := by unfold singleL; rw [if_pos (by rw [HZ.out]; exact hbig)]
    have HS := Lib.hid hsi
    clear hsi
    go_enter Tryz.func125, Tryz.ntmps125
    go_wp2_with fail
    refine (HP.out _ (HE.out.below ((Below.refl _ _).alloc (Nat.le_refl _) _)) (by simp; omega)).mono ?_
    rintro e w1 ⟨hb, he⟩
    rw [if_pos hbig] at he
    subst he
    have HB := Lib.hid (below_then ((Below.refl _ _).alloc (Nat.le_refl _) _) hb)
    obtain ⟨f0, t0, t1, t2, t3, t4, hsz1⟩ := zero_tok hb
    clear hb
    go_wp2
    all_goals refine bodyPost_ret (v := .tuple #[.agg #[.int .i64 0, .int .i64 0, .string ⟨#[]⟩, .int .i64 0, .int .i64 0], .bool false]) (by simp [results, Tryz.results125, go_sem, *]) rfl ⟨by rw [HS.out]; rfl, below_set5 HB.out _ _ _ _ _⟩
  · cases hpc : (piecesL s.data.toList).2 with
    | some q =>
      obtain ⟨p, er⟩ := q
      have hsi : singleL s.data.toList = none := by unfold singleL; rw [if_neg (by rw [HZ.out]; exact hbig), hpc]
      have HS := Lib.hid hsi
      have her := neq_int er 0 (piecesL_er hpc)
      have HPC := Lib.hid hpc
      clear hsi hpc
      go_enter Tryz.func125, Tryz.ntmps125
      go_wp2_with fail
      refine (HP.out _ (HE.out.below ((Below.refl _ _).alloc (Nat.le_refl _) _)) (by simp; omega)).mono ?_
      rintro e w1 ⟨hb, he⟩
      rw [if_neg hbig, HPC.out] at he
      simp only at he
      subst he
      have HB := Lib.hid (below_then ((Below.refl _ _).alloc (Nat.le_refl _) _) hb)
      obtain ⟨f0, t0, t1, t2, t3, t4, hsz1⟩ := zero_tok hb
      clear hb
      go_wp2
      all_goals refine bodyPost_ret (v := .tuple #[.agg #[.int .i64 0, .int .i64 0, .string ⟨#[]⟩, .int .i64 0, .int .i64 0], .bool false]) (by simp [results, Tryz.results125, go_sem, *]) rfl ⟨by rw [HS.out]; rfl, below_set5 HB.out _ _ _ _ _⟩
    | none =>
      have hsi : singleL s.data.toList = (match toksL s.data.toList (piecesL s.data.toList).1 with | [t] => if t.text = s.data.toList then some t else none | _ => none) := by unfold singleL; rw [if_neg (by rw [HZ.out]; exact hbig), hpc]
      have HPC := Lib.hid hpc
      clear hpc
      generalize hts : toksL s.data.toList (piecesL s.data.toList).1 = ts at hsi
      have HTS := Lib.hid hts
      clear hts
      match ts, hsi, HTS with
      | [], hsi, HTS =>
        simp only at hsi
        have HS := Lib.hid hsi
        clear hsi
        go_enter Tryz.func125, Tryz.ntmps125
        go_wp2_with fail
        refine (HP.out _ (HE.out.below ((Below.refl _ _).alloc (Nat.le_refl _) _)) (by simp; omega)).mono ?_
        rintro e w1 ⟨hb, he⟩
        rw [if_neg hbig, HPC.out, HTS.out] at he
        simp only at he
        obtain ⟨v, rfl, hown⟩ := he
        have HB := Lib.hid (below_then ((Below.refl _ _).alloc (Nat.le_refl _) _) hb)
        obtain ⟨f0, t0, t1, t2, t3, t4, hsz1⟩ := zero_tok hb
        clear hb
        rcases hown.2 with ⟨rfl, -⟩ | ⟨g, cap, cur, rfl, -, -, -⟩
        all_goals
          clear hown
          go_wp2
          all_goals refine bodyPost_ret (v := .tuple #[.agg #[.int .i64 0, .int .i64 0, .string ⟨#[]⟩, .int .i64 0, .int .i64 0], .bool false]) (by simp [results, Tryz.results125, go_sem, *]) rfl ⟨by rw [HS.out]; rfl, below_set5 HB.out _ _ _ _ _⟩
      | ta :: tb :: r, hsi, HTS =>
        simp only at hsi
        have HS := Lib.hid hsi
        clear hsi
        go_enter Tryz.func125, Tryz.ntmps125
        go_wp2_with fail
        refine (HP.out _ (HE.out.below ((Below.refl _ _).alloc (Nat.le_refl _) _)) (by simp; omega)).mono ?_
        rintro e w1 ⟨hb, he⟩
        rw [if_neg hbig, HPC.out, HTS.out] at he
        simp only at he
        obtain ⟨v, rfl, hown⟩ := he
        have HB := Lib.hid (below_then ((Below.refl _ _).alloc (Nat.le_refl _) _) hb)
        obtain ⟨f0, t0, t1, t2, t3, t4, hsz1⟩ := zero_tok hb
        clear hb
        rcases hown.2 with ⟨-, hn⟩ | ⟨g, cap, cur, rfl, -, -, -⟩
        · simp at hn
        · clear hown
          generalize hN : (ta :: tb :: r).length = N at *
          have hN2 : 2 ≤ N := by rw [← hN]; simp
          clear hN
          have hln : ((N : Int) != 1) = true := by rw [bne_iff_ne]; omega
          go_wp2
          all_goals refine bodyPost_ret (v := .tuple #[.agg #[.int .i64 0, .int .i64 0, .string ⟨#[]⟩, .int .i64 0, .int .i64 0], .bool false]) (by simp [results, Tryz.results125, go_sem, *]) rfl ⟨by rw [HS.out]; rfl, below_set5 HB.out _ _ _ _ _⟩
      | [t], hsi, HTS =>
        simp only at hsi
        have HS := Lib.hid hsi
        clear hsi
        go_enter Tryz.func125, Tryz.ntmps125
        go_wp2_with fail
        refine (HP.out _ (HE.out.below ((Below.refl _ _).alloc (Nat.le_refl _) _)) (by simp; omega)).mono ?_
        rintro e w1 ⟨hb, he⟩
        rw [if_neg hbig, HPC.out, HTS.out] at he
        simp only at he
        obtain ⟨v, rfl, hown⟩ := he
        have HB := Lib.hid (below_then ((Below.refl _ _).alloc (Nat.le_refl _) _) hb)
        obtain ⟨f0, t0, t1, t2, t3, t4, hsz1⟩ := zero_tok hb
        clear hb
        rcases hown.2 with ⟨-, hn⟩ | ⟨g, cap, cur, rfl, hg0, -, -⟩
        · simp at hn
        · have hcell : ∀ j u, (encTk t)[j]? = some u → w1.cell? ⟨g, j, none⟩ = some u := fun j u h => by
            have h := hown.cells rfl j u (by simpa [rowTk] using h)
            have e : (⟨g, 0, none⟩ : Addr).add j = ⟨g, j, none⟩ := by unfold Addr.add; split <;> simp_all
            rw [← e]; exact h
          have r0 := hcell 0 _ rfl
          have r1 := hcell 1 _ rfl
          have r2 := hcell 2 _ rfl
          have r3 := hcell 3 _ rfl
          have r4 := hcell 4 _ rfl
          have hgw : g ≠ w.heap.size := by simp at hg0; omega
          clear hcell hown
          simp only [List.length_cons, List.length_nil, Nat.zero_add]
          by_cases ht : t.text = s.data.toList
          · have htb : (t.text == s.toList) = true := by rw [Lib.toList_data]; exact beq_iff_eq.2 ht
            rw [if_pos ht] at HS
            have HT := Lib.hid ht
            clear ht
            go_wp2
            all_goals refine bodyPost_ret (v := .tuple #[.agg #[.int .i64 t.kind, .int .i64 t.num, .string ⟨⟨t.text⟩⟩, .int .i64 t.at_, .int .i64 0], .bool true]) (by simp [results, Tryz.results125, go_sem, *]) rfl ⟨by rw [HS.out]; rfl, below_set5 HB.out _ _ _ _ _⟩
          · have htb : (t.text == s.toList) = false := by rw [Lib.toList_data]; exact beq_eq_false_iff_ne.2 ht
            rw [if_neg ht] at HS
            have HT := Lib.hid ht
            clear ht
            go_wp2
            all_goals refine bodyPost_ret (v := .tuple #[.agg #[.int .i64 0, .int .i64 0, .string ⟨#[]⟩, .int .i64 0, .int .i64 0], .bool false]) (by simp [results, Tryz.results125, go_sem, *]) rfl ⟨by rw [HS.out]; rfl, below_set5 HB.out _ _ _ _ _⟩

/-- The cells of what single gives. -/
theorem tkV_cells (o : Option Tk) : ∃ t : Tk, tkV o = .agg #[.int .i64 t.kind, .int .i64 t.num, .string ⟨⟨t.text⟩⟩, .int .i64 t.at_, .int .i64 0] ∧ (∀ x, o = some x → t = x) ∧ (o = none → t = ⟨0, 0, [], 0⟩) := by
  cases o with
  | some t => exact ⟨t, rfl, (fun x h => by injection h), (fun h => by cases h)⟩
  | none => exact ⟨⟨0, 0, [], 0⟩, rfl, (fun x h => by cases h), fun _ => rfl⟩
set_option maxRecDepth 100000 in
set_option maxHeartbeats 4000000 in
theorem kind_any (s : ByteArray) (w : World) (hE : Env w) (hs : s.size ≤ maxLen) (h9 : 9 ≤ w.heap.size) : Calls Tryz.prog 86 #[.string s] w fun e w' => e = .returned (.int .i64 (kindL s.data.toList)) ∧ Below w.heap.size w w' := by
  have HP := Lib.hid (single_any s w hE hs h9)
  clear hE hs h9
  obtain ⟨t, ht1, ht2, ht3⟩ := tkV_cells (singleL s.data.toList)
  have hk : kindL s.data.toList = t.kind := by
    unfold kindL
    cases h : singleL s.data.toList with
    | some x => rw [ht2 x h]
    | none => rw [ht3 h]
  have HK := Lib.hid hk
  have HT := Lib.hid ht1
  clear hk ht1 ht2 ht3
  go_enter Tryz.func86, Tryz.ntmps86
  go_wp2_with fail
  refine HP.out.mono ?_
  rintro e w1 ⟨rfl, hb⟩
  rw [HT.out]
  have HB := Lib.hid hb
  clear hb
  go_wp2
  go_ret
  exact ⟨ret_int (by rw [HK.out]), HB.out.alloc HB.out.size _⟩
set_option maxRecDepth 100000 in
set_option maxHeartbeats 4000000 in
theorem isName_any (s : ByteArray) (w : World) (hE : Env w) (hs : s.size ≤ maxLen) (h9 : 9 ≤ w.heap.size) : Calls Tryz.prog 36 #[.string s] w fun e w' => e = .returned (.bool (kindL s.data.toList == 1)) ∧ Below w.heap.size w w' := by
  have HP := Lib.hid (kind_any s w hE hs h9)
  clear hE hs h9
  have he := int_eq (kindL s.data.toList) 1
  have HE := Lib.hid he
  clear he
  go_enter Tryz.func36, Tryz.ntmps36
  go_wp2_with fail
  refine HP.out.mono ?_
  rintro e w1 ⟨rfl, hb⟩
  have HB := Lib.hid hb
  clear hb
  go_wp2
  go_ret
  exact ⟨congrArg (fun b => Ending.returned (.bool b)) HE.out, HB.out⟩
end Go.Proofs.YtjnimfnelacceaaGreatDoor
namespace Go.Proofs.YtjnimfnelacceaaGreatDoor
open Go.RowKit

/-- lex.Check. -/
def checkT (k n : Int) (l : List UInt8) (a m : Int) : Bool := match singleL l with
  | some t => decide (k = t.kind ∧ n = t.num ∧ 0 ≤ a ∧ 0 ≤ m)
  | none => false
def tokErr (b : Bool) : Int := if b = true then 0 else 14
set_option maxRecDepth 100000 in
set_option maxHeartbeats 4000000 in
theorem check_tok (k n a m : Int) (s : ByteArray) (w : World) (hE : Env w) (hs : s.size ≤ maxLen) (h9 : 9 ≤ w.heap.size) :
    Calls Tryz.prog 94 #[.agg #[.int .i64 k, .int .i64 n, .string s, .int .i64 a, .int .i64 m]] w fun e w' => e = .returned (.int .i64 (tokErr (checkT k n s.data.toList a m))) ∧ Below w.heap.size w w' := by
  have HP := Lib.hid (fun w (h : Env w) h9 => single_any s w h hs h9)
  have HE := Lib.hid hE
  clear hE hs
  have hc : checkT k n s.data.toList a m = (match singleL s.data.toList with | some t => decide (k = t.kind ∧ n = t.num ∧ 0 ≤ a ∧ 0 ≤ m) | none => false) := rfl
  cases hs : singleL s.data.toList with
  | none =>
    rw [hs] at hc
    have HS := Lib.hid hs
    have HC := Lib.hid hc
    clear hs hc
    go_enter Tryz.func94, Tryz.ntmps94
    go_wp2_with fail
    refine (HP.out _ (HE.out.below ((Below.refl _ _).alloc (Nat.le_refl _) _)) (by simp; omega)).mono ?_
    rintro e w1 ⟨rfl, hb⟩
    rw [HS.out]
    have HB := Lib.hid (below_then ((Below.refl _ _).alloc (Nat.le_refl _) _) hb)
    clear hb
    simp only [tkV, Option.isSome]
    go_wp2
    go_ret
    exact ⟨ret_int (by rw [HC.out]; rfl), HB.out.alloc HB.out.size _⟩
  | some t =>
    rw [hs] at hc
    have HS := Lib.hid hs
    have HC := Lib.hid hc
    clear hs hc
    go_enter Tryz.func94, Tryz.ntmps94
    go_wp2_with fail
    refine (HP.out _ (HE.out.below ((Below.refl _ _).alloc (Nat.le_refl _) _)) (by simp; omega)).mono ?_
    rintro e w1 ⟨rfl, hb⟩
    rw [HS.out]
    have HB := Lib.hid (below_then ((Below.refl _ _).alloc (Nat.le_refl _) _) hb)
    have t0 : w1.cell? ⟨w.heap.size, 0, none⟩ = some (.int .i64 k) := below_cell hb (by simp [go_sem])
    have t1 : w1.cell? ⟨w.heap.size, 1, none⟩ = some (.int .i64 n) := below_cell hb (by simp [go_sem])
    have t3 : w1.cell? ⟨w.heap.size, 3, none⟩ = some (.int .i64 a) := below_cell hb (by simp [go_sem])
    have t4 : w1.cell? ⟨w.heap.size, 4, none⟩ = some (.int .i64 m) := below_cell hb (by simp [go_sem])
    have hsz : w.heap.size < w1.heap.size := by have := hb.size; simp at this; omega
    clear hb
    simp only [tkV, Option.isSome, encTk]
    by_cases c1 : k = t.kind
    · by_cases c2 : n = t.num
      · by_cases c3 : 0 ≤ a
        · by_cases c4 : 0 ≤ m
          · have b1 : (k != (t.kind : Int)) = false := by rw [bne_eq_false_iff_eq]; exact c1
            have b2 : (n != t.num) = false := by rw [bne_eq_false_iff_eq]; exact c2
            have b3 : decide (a < 0) = false := by simp; omega
            have b4 : decide (m < 0) = false := by simp; omega
            have HH := Lib.hid (show decide (k = t.kind ∧ n = t.num ∧ 0 ≤ a ∧ 0 ≤ m) = true from decide_eq_true ⟨c1, c2, c3, c4⟩)
            clear c1 c2
            go_wp2
            go_ret
            exact ⟨ret_int (by rw [HC.out, HH.out]; rfl), HB.out.alloc HB.out.size _⟩
          · have b1 : (k != (t.kind : Int)) = false := by rw [bne_eq_false_iff_eq]; exact c1
            have b2 : (n != t.num) = false := by rw [bne_eq_false_iff_eq]; exact c2
            have b3 : decide (a < 0) = false := by simp; omega
            have b4 : decide (m < 0) = true := by simp; omega
            have HH := Lib.hid (show decide (k = t.kind ∧ n = t.num ∧ 0 ≤ a ∧ 0 ≤ m) = false from decide_eq_false fun h => c4 h.2.2.2)
            clear c1 c2 c4
            go_wp2
            go_ret
            exact ⟨ret_int (by rw [HC.out, HH.out]; rfl), HB.out.alloc HB.out.size _⟩
        · have b1 : (k != (t.kind : Int)) = false := by rw [bne_eq_false_iff_eq]; exact c1
          have b2 : (n != t.num) = false := by rw [bne_eq_false_iff_eq]; exact c2
          have b3 : decide (a < 0) = true := by simp; omega
          have HH := Lib.hid (show decide (k = t.kind ∧ n = t.num ∧ 0 ≤ a ∧ 0 ≤ m) = false from decide_eq_false fun h => c3 h.2.2.1)
          clear c1 c2 c3
          go_wp2
          go_ret
          exact ⟨ret_int (by rw [HC.out, HH.out]; rfl), HB.out.alloc HB.out.size _⟩
      · have b1 : (k != (t.kind : Int)) = false := by rw [bne_eq_false_iff_eq]; exact c1
        have b2 : (n != t.num) = true := by rw [bne_iff_ne]; exact c2
        have HH := Lib.hid (show decide (k = t.kind ∧ n = t.num ∧ 0 ≤ a ∧ 0 ≤ m) = false from decide_eq_false fun h => c2 h.2.1)
        clear c1 c2
        go_wp2
        go_ret
        exact ⟨ret_int (by rw [HC.out, HH.out]; rfl), HB.out.alloc HB.out.size _⟩
    · have b1 : (k != (t.kind : Int)) = true := by rw [bne_iff_ne]; exact c1
      have HH := Lib.hid (show decide (k = t.kind ∧ n = t.num ∧ 0 ≤ a ∧ 0 ≤ m) = false from decide_eq_false fun h => c1 h.1)
      clear c1
      go_wp2
      go_ret
      exact ⟨ret_int (by rw [HC.out, HH.out]; rfl), HB.out.alloc HB.out.size _⟩
set_option maxRecDepth 100000 in
set_option maxHeartbeats 4000000 in
theorem number_any (s : ByteArray) (w : World) (hs : s.size ≤ 1000000) (hE : Env w) :
    Calls Tryz.prog 53 #[.string s] w fun e w' => e = .returned (.tuple #[.int .i64 (if (valueL s.data.toList).2 = true then (valueL s.data.toList).1 else 0), .int .i64 (if (valueL s.data.toList).2 = true then 0 else 11)]) ∧ Below w.heap.size w w' := by
  have HP := Lib.hid (value_any s w hs hE)
  clear hE
  generalize valueL s.data.toList = v at *
  obtain ⟨n, b⟩ := v
  cases b
  all_goals
    go_enter Tryz.func53, Tryz.ntmps53
    go_wp2_with fail
    refine HP.out.mono ?_
    rintro e w1 ⟨rfl, hb⟩
    have HB := Lib.hid hb
    clear hb
    go_wp2
    go_ret2
    exact ⟨rfl, HB.out⟩
end Go.Proofs.YtjnimfnelacceaaGreatDoor

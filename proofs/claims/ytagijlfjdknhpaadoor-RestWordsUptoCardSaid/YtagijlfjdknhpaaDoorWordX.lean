/- The walk of the law RestWords. -/
import Derived.Test.YtagijlfjdknhpaaDoorWordT
import Derived.Laws.MakeOwn
namespace Go.Proofs.YtagijlfjdknhpaaDoor.WordX
open Go.RowKit Go.WideShapes Mem WordP OneB WordW WordS WordB WordJ WordT
open WordR (parts_any)
open WordQ (elemStr)

theorem row_pre {w : World} {B : Nat} {A : Option Addr} {xs ys : List Value} (h : Row w B A (xs ++ ys)) : Row w B A xs := by
  have := h.takeN xs.length
  rwa [List.take_left] at this
theorem own_some {w : World} {base n : Nat} {e : TypeId} {size : Nat} {v : Value} {xs : List Value} (h : w.ownsRow base e size v n xs) (h0 : 0 < n) : ∃ g c, v = .slice (some ⟨g, 0, none⟩) n c ∧ base ≤ g ∧ n ≤ c := by
  rcases h.2 with ⟨_, h2⟩ | ⟨g, cap, cur, h1, h3, _, h4, _⟩
  · omega
  · exact ⟨g, cap, h1, h3, h4⟩
theorem own_rowAt {w : World} {base n g c : Nat} {e : TypeId} {size : Nat} {xs : List Value} (h : w.ownsRow base e size (.slice (some ⟨g, 0, none⟩) n c) n xs) : Row w w.heap.size (some ⟨g, 0, none⟩) xs := by
  obtain ⟨A, c', e, _, _, r⟩ := own_row h
  cases e
  exact r
def room : ByteArray := ⟨#[114, 111, 111, 109]⟩
theorem own_last {w : World} {base g c : Nat} {e : TypeId} {L : List ByteArray} {x : ByteArray} (h : w.ownsRow base e 1 (.slice (some ⟨g, 0, none⟩) (0 + L.length + 1) c) (0 + L.length + 1) ([] ++ strs L ++ [.string x])) : w.cell? ⟨g, L.length, none⟩ = some (.string x) := by
  rw [h.cellAt L.length (by omega)]
  simp [strs]
set_option maxRecDepth 100000 in
set_option maxHeartbeats 4000000 in
theorem restWords_any (u : UInt8) (A : Option Addr) (c : Nat) (L : List ByteArray) (w : World) (H : HS w A c L 1048576 16777216) :
    Calls Tryd.prog 11 #[.slice A L.length c, .int .u8 u.toNat] w (Gives (.bool true) w) := by
  have hln := H.n
  have hnl : (0 : Int) ≤ (L.length : Int) + 1 := by omega
  obtain ⟨i0, hi, hz0, hz1, hz2⟩ := info_parts WordR.info_str
  obtain ⟨wm, hmk, om, gm⟩ := run_make_own (P := Tryd.prog) w w.heap.size 29 9 i0 _ 1 Tryd.underlying29 hi hz0 hz1 .i64 .i64 (L.length + 1) (by rw [hz2]; omega) (by unfold maxLen; omega) (Nat.le_refl _)
  rw [show (((L.length + 1 : Nat)) : Int) = (L.length : Int) + 1 from by omega] at hmk
  have Bm : Below w.heap.size w wm := (Below.refl _ w).grown gm (Nat.le_refl _) (fun j e => by cases e)
  have hrL := H.r.at' Bm
  have hcap := H.cap
  have hz := H.z
  have HSZ := Lib.hid H.s
  have HR := Lib.hid H.r
  have hjl := join_len u 1048576 L H.s
  have hjb : (join u (L.map (·.data.toList))).length ≤ 1099512676352 := by
    have : L.length * 1048577 ≤ 1048576 * 1048577 := Nat.mul_le_mul_right _ (by omega)
    omega
  have CJ := fun A' c' w' hr (hc : L.length ≤ c') => join_any A' c' L u w' hr hc (by omega) (by omega)
  have hdata : (str (join u (L.map (·.data.toList)))).data.toList = join u (L.map (·.data.toList)) := by simp [str]
  have CP := fun w' => parts_any (str (join u (L.map (·.data.toList)))) u w' (by rw [WordW.str_size]; omega)
  rw [hdata] at CP
  have hp0 : 0 < (split u (join u (L.map (·.data.toList)))).length := List.length_pos_iff.2 (split_ne _ _)
  have hp1 : (split u (join u (L.map (·.data.toList)))).length ≤ 1099512676353 := by
    have := split_len u (join u (L.map (·.data.toList))); omega
  generalize (split u (join u (L.map (·.data.toList)))).length = np at CP hp0 hp1
  generalize (((split u (join u (L.map (·.data.toList)))).map str).map Value.string) = xp at CP
  generalize str (join u (L.map (·.data.toList))) = jn at CP CJ
  have CJ := Lib.hid CJ; have CP := Lib.hid CP
  have q1 := beq_self jn
  clear H hjl hjb hdata
  go_enter Tryd.func11, Tryd.ntmps11
  go_wp2_with (first
    | (at_builtin
       refine app elemStr rfl (.tmp 12) (.tmp 13) rfl w.heap.size _ 0 _ rfl om A L.length c (strs L) wm.heap.size rfl (by rw [strs_len, Nat.mul_one]) hrL (by simp [strs, Value.oneCell']) hz (by omega) (by omega) Bm.size ?_
       intro v3 w3 o3 g3
       have S3 : Below w.heap.size w w3 := Bm.grown g3 Bm.size (fun k e => (om.lt k e).1)
       clear gm om hmk hrL)
    | (at_builtin
       refine app elemStr rfl (.tmp 14) (.tmp 15) rfl w.heap.size _ (0 + L.length) _ rfl (o3.alloc _) (some ⟨w3.heap.size, 0, none⟩) 1 1 [.string ⟨#[114, 111, 111, 109]⟩] (w3.heap.size + 1) rfl rfl (Row.lit w3 _ _ _ (by omega)) (by simp [Value.oneCell']) (fun e => by cases e) (by omega) (by omega) (by have := S3.size; simp; omega) ?_
       intro v4 w4 o4 g4
       have S4 : Below w.heap.size w w4 := (below_new S3 (.cells #[.string ⟨#[114, 111, 111, 109]⟩] 9)).grown g4 (by have := S3.size; simp; omega) (fun k e => (o3.lt k e).1)
       clear g3 g4 o3
       obtain ⟨gt, ct, rfl⟩ := ownsRow_succ o4
       have hct := own_cap o4))
  have row4 := row_pre (own_rowAt o4)
  have last4 := own_last o4
  have gt4 := (o4.lt gt rfl).2
  clear o4 S3
  refine (CJ.out _ _ _ row4 (by omega)).mono ?_
  rintro e w5 ⟨rfl, b5⟩
  have row5 := row4.at' b5
  have last5 := (b5.cell (p := ⟨gt, L.length, none⟩) gt4).trans last4
  have gt5 : gt < w5.heap.size := Nat.lt_of_lt_of_le gt4 b5.size
  have S5 := below_cat S4 b5
  clear row4 last4 gt4 b5 S4
  go_wp2_with fail
  refine (CP.out _).mono ?_
  rintro e w6 ⟨v6, rfl, o6, b6⟩
  obtain ⟨gp, cp, rfl, hgp, hcp⟩ := own_some o6 hp0
  go_wp2_with fail
  refine (wordBegun_any _).mono ?_
  rintro e w7 ⟨rfl, b7⟩
  have o7 := own_below o6 b7
  have T7 := below_cat b6 b7
  clear o6 b6 b7 CP
  go_wp2_with fail
  go_loopw [8] (fun i wr => ∃ (k : Nat) (xs : List Value), k ≤ np ∧ i = .int .i64 k ∧ wr.ownsRow w5.heap.size 9 1 (.slice (some ⟨gp, 0, none⟩) np cp) np xs ∧ Below w5.heap.size w5 wr) (fun i _ => np - (intOf i).toNat)
  case atStart => exact ⟨0, _, Nat.zero_le _, rfl, o7, T7⟩
  case round =>
    clear o7 T7
    obtain ⟨k, xs, hk, rfl, ho, hb⟩ := hrel
    by_cases hlt : k < np
    · have hw1 : (0 : Int) ≤ (k : Int) := by omega
      have hw2 : (k : Int) < (np : Int) := by omega
      have hxl : k < xs.length := by have := ho.1; omega
      have ck : wr.cell? ⟨gp, k, none⟩ = some xs[k] := by rw [ho.cellAt k (by omega)]; simp [hxl]
      have fk := ho.frozenAt k
      have HO := Lib.hid ho
      clear ho
      generalize xs[k] = old at ck
      go_wp2_with fail
      go_roundw
      case rel => exact ⟨k + 1, _, by omega, by go_num, (HO.out.stored k _).1, hb.setCell (p := ⟨gp, k, none⟩) hgp _⟩
      case measure => simp [intOf]; omega
    · obtain rfl : k = np := by omega
      have hw2 : ¬ (k : Int) < (k : Int) := by omega
      clear ho
      have hbw := below_cat S5 hb
      go_wp2_with fail
      refine (sameTexts_any (some ⟨gt, 0, none⟩) ct L A c L wr (row5.at' hb) (by omega) (HR.out.at' hbw) (by omega)).mono ?_
      rintro e w8 ⟨rfl, b8⟩
      rw [decide_eq_true rfl]
      have T8 := below_cat hb b8
      have c8 := (T8.cell (p := ⟨gt, L.length, none⟩) gt5).trans last5
      have row8 := row5.at' T8
      have S8 := below_cat hbw b8
      clear b8 hb hbw row5 T8 last5
      have hx1 : (0 : Int) ≤ (L.length : Int) := by omega
      have hx2 : (L.length : Int) < (L.length : Int) + 1 := by omega
      have hx3 : (L.length : Int) + 1 ≤ (ct : Int) := by omega
      go_wp2_with fail
      refine (CJ.out _ _ _ row8 (by omega)).mono ?_
      rintro e w9 ⟨rfl, b9⟩
      have S9 := below_cat S8 b9
      go_wp2_with fail
      go_ret
      exact ⟨rfl, S9⟩
theorem restWords_u (a : Int) (h : (Lit.int .u8 a).wf = true) (A : Option Addr) (c : Nat) (L : List ByteArray) (w : World) (H : HS w A c L 1048576 16777216) :
    Calls Tryd.prog 11 #[.slice A L.length c, .int .u8 a] w (Gives (.bool true) w) := by
  obtain ⟨u, rfl⟩ := byte_of h
  exact restWords_any u A c L w H
end Go.Proofs.YtagijlfjdknhpaaDoor.WordX

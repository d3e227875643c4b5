/- The walk of the law BitsBack. -/
import Derived.Test.YtmcihmcgkhijcaaBitsY
set_option pp.deepTerms true
set_option pp.maxSteps 1000000
namespace Go.Proofs.Ytmcihmcgkhijcaa.BitsZ
open Go.RowKit Mem BitsP BitsS BitsT BitsW BitsR OneB BitsU BitsV BitsX BitsQ BitsY

theorem writeF_bad {L : List (Nat × Int)} (h : (writeF L).2 ≠ 0) : (writeF L).1 = ⟨#[]⟩ := by
  unfold writeF at h ⊢
  split
  · rfl
  · split
    · rename_i h1 h2; rw [if_neg h1, if_pos h2] at h; exact absurd rfl h
    · rfl
theorem writeF_ok {L : List (Nat × Int)} (h : (writeF L).2 = 0) : ¬ 400 < L.length ∧ chk L = 0 ∧ (writeF L).1 = btx (allBits L) := by
  unfold writeF at h ⊢
  split at h
  · cases h
  · split at h
    · rename_i h1 h2; rw [if_neg h1, if_pos h2]; exact ⟨h1, h2, rfl⟩
    · rename_i h1 h2; exact absurd h h2
/-- Two values that own apart. -/
def Apart (u v : Value) : Prop := ∀ k, u.ownBlock = some k → v.ownBlock ≠ some k
theorem apart_grow {w w' : World} {base : Nat} {t : TypeId} {u u' v : Value} {n : Nat} {xs : List Value} {size : Nat} (h : Apart u v) (hv : w.ownsRow base t size v n xs) {o : Obj} (ha : u'.ownBlock = u.ownBlock ∨ u'.ownBlock = some (w.alloc o).heap.size) (hg : (w.alloc o).grownBy w' u.ownBlock) : Apart u' v ∧ w'.ownsRow base t size v n xs := by
  constructor
  · intro k hk
    rcases ha with ha | ha
    · exact h k (by rw [← ha]; exact hk)
    · rw [ha] at hk
      intro hvk
      have := (hv.lt k hvk).2
      simp at hk
      omega
  · exact (hv.alloc o).kept hg (by
      rcases hvb : v.ownBlock with _ | k
      · exact .inl rfl
      · exact .inr (fun e => h k e.symm hvb))
theorem Apart.symm {u v : Value} (h : Apart u v) : Apart v u := fun k hk hu => h k hu hk
def wds (L : List (Nat × Int)) : List Value := (L.map Prod.snd).map fun x => Value.int .i64 x
def nms (L : List (Nat × Int)) : List Value := u64s (L.map Prod.fst)
theorem wds_snoc (L : List (Nat × Int)) (f : Nat × Int) : wds (L ++ [f]) = wds L ++ [.int .i64 f.2] := by simp [wds]
theorem wds_one (L : List (Nat × Int)) : ∀ u ∈ wds L, u.oneCell' = true := fun u hu => by
  simp only [wds, List.mem_map] at hu
  obtain ⟨x, _, rfl⟩ := hu
  rfl
theorem nms_snoc (L : List (Nat × Int)) (f : Nat × Int) : nms (L ++ [f]) = nms L ++ [.int .u64 (f.1 : Int)] := by simp [nms, u64s]

set_option maxRecDepth 100000 in
set_option maxHeartbeats 8000000 in
theorem bitsBack_any (A : Option Addr) (c : Nat) (L : List (Nat × Int)) (s : ByteArray) (w : World) (H : HF w A L) (hs : s.size ≤ 140737488351232) :
    Calls Try.prog 11 #[.slice A L.length c, .string s] w (Gives (.bool true) w) := by
  have C1 := Lib.hid (write_any A c L H.b w H.r H.n)
  unfold WPost at C1
  by_cases he : (writeF L).2 = 0
  · obtain ⟨hlen, hck, hx⟩ := writeF_ok he
    rw [he, hx] at C1
    have hsz := btx_size (allBits L)
    have hal := allBits_len L hck
    have hx2 : (btx (allBits L)).size ≤ 3200 := by omega
    have R1 := read_back L ⟨#[]⟩ hlen hck
    have R2 := read_back L s hlen hck
    have R3 := read_pad L (h := hck)
    have hp := pad_lt (allBits L)
    have ee : btx (allBits L) ++ ⟨#[]⟩ = btx (allBits L) := ByteArray.append_empty
    rw [ee] at R1
    have R1' := Lib.hid R1; have R2' := Lib.hid R2; have R3' := Lib.hid R3
    clear he hx hsz hal hck R1 R2 R3 ee
    generalize btx (allBits L) = x at C1 hx2 R1' R2' R3'
    generalize pad (allBits L) = pd at hp R1' R2' R3'
    go_enter Try.func11, Try.ntmps11
    go_wp2_with fail
    refine C1.out.mono ?_
    rintro e w1 ⟨rfl, B1⟩
    go_wp2_with fail
    refine (bitsBegun_any _).mono ?_
    rintro e w2 ⟨rfl, b2⟩
    have B2 := below_cat B1 b2
    clear B1 b2 C1
    go_wp2_with fail
    have HL := Lib.hid hlen
    have hl400 : L.length ≤ 400 := by omega
    clear hlen
    go_loopw [7, 8, 9] (fun u v i wr => ∃ k : Nat, k ≤ L.length ∧ i = .int .i64 k ∧ wr.ownsRow w2.heap.size 3 1 u k (wds (L.take k)) ∧ wr.ownsRow w2.heap.size 26 1 v k (nms (L.take k)) ∧ Apart u v ∧ Below w2.heap.size w2 wr) (fun _ _ i _ => L.length - (intOf i).toNat)
    case atStart => exact ⟨0, Nat.zero_le _, rfl, World.ownsRow_nil _ _ _ _, World.ownsRow_nil _ _ _ _, (fun k hk => by cases hk), Below.refl _ _⟩
    case round =>
      obtain ⟨k, hk, rfl, hu, hv, hap, hb⟩ := hrel
      have hbw := below_cat B2 hb
      by_cases hlt : k < L.length
      · obtain ⟨b, o, rfl, hbB, hcs⟩ := Row.elems fld_len H.r (by omega) (by omega)
        have hc0 := (hbw.cell (p := ⟨b, o + k * 2 + 0, none⟩) hbB).trans (hcs k hlt 0 _ rfl)
        have hc1 := (hbw.cell (p := ⟨b, o + k * 2 + 1, none⟩) hbB).trans (hcs k hlt 1 _ rfl)
        have htk : L.take (k + 1) = L.take k ++ [L[k]] := List.take_succ_eq_append_getElem hlt
        have hw := wds_snoc (L.take k) L[k]
        have hn := nms_snoc (L.take k) L[k]
        rw [← htk] at hw hn
        have HW := Lib.hid hw; have HN := Lib.hid hn
        clear hw hn htk hcs
        generalize L[k] = f at hc0 hc1 HW HN
        obtain ⟨n, wd⟩ := f
        simp only [Nat.add_zero] at hc0
        have hbs := hb.size
        have hbs2 := B2.size
        go_wp2_with (first
          | (at_builtin
             refine app_at elemInt rfl (.tmp 36) (.tmp 42) rfl w2.heap.size _ k _ rfl (hu.alloc _) ⟨wr.heap.size, 0, none⟩ 1 1 [.int .i64 wd] (wr.heap.size + 1) rfl rfl (Row.lit wr _ [.int .i64 wd] _ (by omega)) (by simp [Value.oneCell']) (by omega) (by omega) (by simp; omega) ?_
             intro u1 w5 o5 g5 a5
             have hp5 := apart_grow hap hv a5 g5
             have B5 : Below w2.heap.size w2 w5 := (hb.alloc hb.size _).grown g5 (hb.alloc hb.size _).size (fun j e => (hu.lt j e).1)
             have d0 := ((below_cat B2 B5).cell (p := ⟨b, o + k * 2, none⟩) hbB).trans ((hbw.cell (p := ⟨b, o + k * 2, none⟩) hbB).symm.trans hc0)
             have O5 := Lib.hid o5; have P5 := Lib.hid hp5; have G5 := Lib.hid g5; have A5 := Lib.hid a5
             have z5 := B5.size
             clear o5 hp5 g5 a5)
          | (at_builtin
             refine app_at elemU64 rfl (.tmp 44) (.tmp 50) rfl w2.heap.size _ k _ rfl (P5.out.2.alloc _) ⟨w5.heap.size, 0, none⟩ 1 1 [.int .u64 n] (w5.heap.size + 1) rfl rfl (Row.lit w5 _ [.int .u64 n] _ (by omega)) (by simp [Value.oneCell']) (by omega) (by omega) (by simp; omega) ?_
             intro u2 w6 o6 g6 a6
             have hp6 := apart_grow P5.out.1.symm O5.out a6 g6
             have B6 : Below w2.heap.size w2 w6 := (B5.alloc B5.size _).grown g6 (B5.alloc B5.size _).size (fun j e => (P5.out.2.lt j e).1)
             have O6 := Lib.hid o6; have P6 := Lib.hid hp6
             clear o6 hp6 g6 a6))
        go_roundw
        case rel =>
          refine ⟨k + 1, by omega, by go_num, ?_, ?_, P6.out.1.symm, B6⟩
          · rw [HW.out]; exact P6.out.2
          · rw [HN.out]; exact O6.out
        case measure => simp [intOf]; omega
      · obtain rfl : k = L.length := by omega
        rw [List.take_length] at hu hv
        obtain ⟨A3, c3, rfl, n3, _, r3⟩ := own_row hu
        obtain ⟨A4, c4, rfl, n4, _, r4⟩ := own_row hv
        have CA := fun w' (hb : Below wr.heap.size wr w') => read_any x A3 c3 (L.map Prod.snd) w' (by omega) (r3.at' hb) (by simp; omega)
        have CB := fun w' (hb : Below wr.heap.size wr w') => read_any (x ++ s) A3 c3 (L.map Prod.snd) w' (by simp; omega) (r3.at' hb) (by simp; omega)
        rw [List.length_map, R1'.out] at CA
        rw [List.length_map, R2'.out] at CB
        have CA' := Lib.hid CA; have CB' := Lib.hid CB
        clear CA CB
        go_wp2_with fail
        refine (CA'.out _ (Below.refl _ _)).mono ?_
        rintro e w5 ⟨A5, c5, rfl, _, r5, b5⟩
        have R5 := Lib.hid r5
        clear r5
        go_wp2_with fail
        refine (CB'.out _ b5).mono ?_
        rintro e w6 ⟨A6, c6, rfl, _, r6, b6⟩
        have B6 := below_cat b5 b6
        have R6 := Lib.hid r6
        have R5b := Lib.hid (R5.out.at' b6)
        clear r6 R5
        go_wp2_with fail
        have CS := sameNums_any A5 c5 (L.map Prod.fst) A4 c4 (L.map Prod.fst) w6 R5b.out (by simp; omega) (r4.at' B6) (by simp; omega)
        simp only [List.length_map, decide_true] at CS
        refine CS.mono ?_
        rintro e w7 ⟨rfl, b7⟩
        have B7 := below_cat B6 b7
        have R6b := Lib.hid (R6.out.at' b7)
        clear R6 R5b CS
        go_wp2_with fail
        have CS := sameNums_any A6 c6 (L.map Prod.fst) A4 c4 (L.map Prod.fst) w7 R6b.out (by simp; omega) (r4.at' B7) (by simp; omega)
        simp only [List.length_map, decide_true] at CS
        refine CS.mono ?_
        rintro e w8 ⟨rfl, b8⟩
        have B8 := below_cat B7 b8
        clear CS R6b b8 b7 b6 b5 B6 B7
        have hp7 : decide ((7 : Int) < (pd : Int)) = false := by simp; omega
        by_cases hp0 : pd = 0
        · have HP0 := Lib.hid hp0
          have hq : ((pd : Int) == 0) = true := by simp [hp0]
          clear hp0
          go_wp2_with fail
          go_ret
          exact ⟨rfl, below_cat hbw B8⟩
        · have hq : ((pd : Int) == 0) = false := by simp [hp0]
          by_cases h4 : L.length = 400
          · have hq4 : ((L.length : Int) == 400) = true := by simp [h4]
            clear h4
            go_wp2_with fail
            go_ret
            exact ⟨rfl, below_cat hbw B8⟩
          · have hq4 : ((L.length : Int) == 400) = false := by simp; omega
            have hlt4 : L.length < 400 := by omega
            have R9 := R3'.out hlt4 hp0
            have HR9 := Lib.hid R9
            clear h4 hp0 R9
            have r38 := r3.at' B8
            have n38 := n3
            have z8 := B8.size
            have e3 : (wds L).length = L.length := by simp [wds]
            have E3 := Lib.hid e3
            clear e3
            go_wp2_with (first
              | (at_builtin
                 refine app elemInt rfl (.tmp 112) (.tmp 113) rfl w8.heap.size _ 0 [] rfl (World.ownsRow_lit w8 #[] 0 (Nat.le_refl _) (by decide) rfl) A3 L.length c3 (wds L) (w8.heap.size + 1) rfl (by rw [E3.out]; omega) ((r38.below ((Below.refl _ _).alloc (Nat.le_refl _) _)).more (by omega)) (wds_one L) (fun e => (n38 e).1) (by omega) (by omega) (by simp) ?_
                 intro u1 w9 o9 g9
                 have B9 : Below w8.heap.size w8 w9 := ((Below.refl _ w8).alloc (Nat.le_refl _) _).grown g9 (by simp) (fun k e => by cases e; exact Nat.le_refl _)
                 have O9 := Lib.hid o9
                 clear o9 g9)
              | (at_builtin
                 refine app elemInt rfl (.tmp 114) (.tmp 116) rfl w8.heap.size _ (0 + L.length) _ rfl (O9.out.alloc _) (some ⟨w9.heap.size, 0, none⟩) 1 1 [.int .i64 (pd : Int)] (w9.heap.size + 1) rfl rfl (Row.lit w9 _ [.int .i64 (pd : Int)] _ (by omega)) (by simp [Value.oneCell']) (fun e => by cases e) (by omega) (by omega) (by have := B9.size; simp; omega) ?_
                 intro u2 w10 o10 g10
                 have B10 : Below w8.heap.size w8 w10 := (B9.alloc B9.size _).grown g10 (B9.alloc B9.size _).size (fun j e => (O9.out.lt j e).1)
                 obtain ⟨A10, c10, rfl, n10, _, r10⟩ := own_row o10
                 clear g10))
            have CR := read_any x A10 c10 (L.map Prod.snd ++ [(pd : Int)]) w10 (by omega) (by simpa [wds] using r10) (by simp; omega)
            rw [HR9.out] at CR
            simp only [List.length_append, List.length_map, List.length_cons, List.length_nil, Nat.zero_add] at CR
            have CR' := Lib.hid CR
            clear CR
            have B10' := below_cat (below_cat hbw B8) B10
            refine CR'.out.mono ?_
            rintro e w11 ⟨A11, c11, rfl, _, r11, b11⟩
            obtain ⟨b, o, rfl, _, hcs⟩ := r11.open' (by simp [u64s])
            have hlast := hcs L.length (.int .u64 ((0 : Nat) : Int)) (by simp [u64s])
            have hw1 : IntKind.i64.wrap (L.length : Int) = L.length := IntWalk.i64_in _ (by omega)
            have hw2 : (0 : Int) ≤ (L.length : Int) := by omega
            clear hcs r10 o10 r11
            go_wp2_with fail
            go_ret
            exact ⟨rfl, below_cat B10' b11⟩
  · have hx := writeF_bad he
    rw [hx] at C1
    have hne : (((writeF L).2 : Int) != 0) = true := by simp; exact he
    clear hx he
    generalize (writeF L).2 = er at C1 hne
    go_enter Try.func11, Try.ntmps11
    go_wp2_with fail
    refine C1.out.mono ?_
    rintro e w1 ⟨rfl, B1⟩
    go_wp2_with fail
    refine (bitsBegun_any _).mono ?_
    rintro e w2 ⟨rfl, b2⟩
    go_wp2_with fail
    go_ret
    exact ⟨rfl, below_cat B1 b2⟩
end Go.Proofs.Ytmcihmcgkhijcaa.BitsZ

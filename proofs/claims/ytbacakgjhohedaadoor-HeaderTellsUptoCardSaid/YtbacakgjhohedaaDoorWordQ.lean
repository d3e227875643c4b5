/- The walk of the reference's PartsOf: from the end, by itself. -/
import Derived.Test.YtbacakgjhohedaaDoorWordJ
import Derived.Test.YtbacakgjhohedaaDoorWordR
namespace Go.Proofs.YtbacakgjhohedaaDoor.WordQ
open Go.RowKit Mem WordP OneB WordW WordS WordJ
open WordC (ext_drop ext_take)

theorem elemStr : Elem Tryd.prog 39 9 1 16 := Elem.mk (z := .string ⟨#[]⟩) Tryd.underlying39 (by kernel_rfl) rfl (by decide)
theorem own_lower {w : World} {a b : Nat} {e : TypeId} {size n : Nat} {v : Value} {xs : List Value} (h : w.ownsRow b e size v n xs) (hab : a ≤ b) : w.ownsRow a e size v n xs := WordR.own_lower h hab
set_option maxRecDepth 100000 in
set_option maxHeartbeats 4000000 in
theorem partsOf_any (u : UInt8) : ∀ (n : Nat) (s : ByteArray), s.size < n → s.size ≤ 4398046511104 → ∀ w : World,
    Calls Tryd.prog 24 #[.string s, .int .u8 u.toNat] w (GivesRow w.heap.size 9 (split u s.data.toList).length (strs ((split u s.data.toList).map str)) w) := by
  intro n
  induction n with
  | zero => intro s hn; omega
  | succ n ih =>
    intro s hn hs w
    have IH := Lib.hid ih
    clear ih
    go_enter Tryd.func24, Tryd.ntmps24
    go_wp2_with fail
    go_loopw [5] (fun i wr => ∃ k : Nat, k ≤ s.size ∧ i = .int .i64 ((k : Int) - 1) ∧ (s.data.toList.drop k).contains u = false ∧ Below w.heap.size w wr) (fun i _ => (intOf i + 1).toNat)
    case atStart => exact ⟨s.size, Nat.le_refl _, rfl, by rw [List.drop_of_length_le (by simp)]; rfl, Below.refl _ _⟩
    case round =>
      obtain ⟨k, hk, rfl, hct, hb⟩ := hrel
      have HC := Lib.hid hct
      clear hct
      by_cases hlt : 0 < k
      · have hd := drop_consB s (k - 1) (by omega)
        rw [show k - 1 + 1 = k from by omega] at hd
        have hi1 : ((k : Int) - 1) = ((k - 1 : Nat) : Int) := by omega
        rw [hi1]
        have hw0 : (0 : Int) ≤ ((k - 1 : Nat) : Int) := by omega
        have hw1 : ((k - 1 : Nat) : Int) < (s.size : Int) := by omega
        have hw2 : ((k - 1 : Nat) : Int) ≤ (s.size : Int) := by omega
        have hw3 : ((k - 1 : Nat) : Int) + 1 ≤ (s.size : Int) := by omega
        have hwr : IntKind.i64.wrap (((k - 1 : Nat) : Int) + 1) = (k : Int) := by rw [IntWalk.i64_in _ (by omega)]; omega
        have hw4 : (k : Int) ≤ (s.size : Int) := by omega
        have hw5 : (0 : Int) ≤ (k : Int) := by omega
        have HD := Lib.hid hd
        clear hd
        by_cases heq : s[k - 1] = u
        · have e1 : ((s[k - 1].toNat : Int) == (u.toNat : Int)) = true := by rw [heq]; simp
          have hsp : split u s.data.toList = split u (s.data.toList.take (k - 1)) ++ [s.data.toList.drop k] := by
            have e := split_mid u (s.data.toList.take (k - 1)) (s.data.toList.drop k)
            rw [split_none u _ HC.out, ← heq, ← HD.out, List.take_append_drop] at e
            rw [← heq]; exact e
          have ht1 : s.extract 0 (k - 1) = str (s.data.toList.take (k - 1)) := ext_take s (k - 1)
          have ht2 : s.extract k s.size = str (s.data.toList.drop k) := ext_drop s k
          have hl1 : (split u (s.data.toList.take (k - 1))).length ≤ k := by
            have := split_len u (s.data.toList.take (k - 1))
            simp at this; omega
          have HI := fun w' => IH.out (str (s.data.toList.take (k - 1))) (by rw [str_size]; simp; omega) (by rw [str_size]; simp; omega) w'
          have hdt : (str (s.data.toList.take (k - 1))).data.toList = s.data.toList.take (k - 1) := by simp [str]
          rw [hdt] at HI
          have HSP := Lib.hid hsp; have HT2 := Lib.hid ht2
          have HI := Lib.hid HI
          clear hsp ht2 hdt
          generalize split u (s.data.toList.take (k - 1)) = L1 at HI HSP hl1
          go_wp2_with fail
          refine Seq.region_part (S := fun w' => Below w.heap.size w w') [(0, false), (1, false), (2, false), (3, false), (5, false), (6, false), (7, false), (8, false)] #[true, true, true, true, false, true, true, true, true, false, false, false] 4
            (by kernel_rfl) (by kernel_rfl) (fun _ _ d _ _ h => by cases d <;> exact h) hb.drew ?_
          simp only [Seq.lay, List.getElem?_cons_zero, List.getElem?_cons_succ]
          repeat (first
            | (refine Seq.seq_read (v := ?_) (by rfl) ?_ ?_
               rotate_left
               · (intro w' hS; go_simp; with_reducible rfl)
               simp only [Act.put, List.setIfInBounds_toArray, List.set_cons_zero, List.set_cons_succ]))
          refine Seq.seq_nil ?_
          refine Seq.either 4 9 _ _ (by kernel_rfl) rfl rfl (by rfl) (by rfl) (fun K hK => ?_) (fun K hK => ?_)
          · go_simp
            refine (HI.out _).mono ?_
            rintro e w1 ⟨v1, rfl, o1, hb1⟩
            have S1 := below_cat hb.drew hb1
            refine hK _ _ S1 ?_
            clear hK K
            refine Seq.on_seq [(9, true), (10, true), (11, false)] (by kernel_rfl) (fun _ _ d _ _ h => by cases d <;> exact h) S1 ?_
            simp only [Seq.lay, List.getElem?_cons_zero, List.getElem?_cons_succ]
            refine Seq.seq_do (by rfl) (fun K hK => ?_)
            go_simp
            have S2 := below_new S1 (.cells #[.string (s.extract k s.size)] 9)
            refine hK _ _ S2 ?_
            clear hK K
            have ow := own_lower (a := w.heap.size) o1 hb.size
            refine Seq.seq_do (by rfl) (fun K hK => ?_)
            refine wp_app elemStr (.tmp 22) (.tmp 27) rfl w.heap.size _ _ _ rfl (ow.alloc _) (some ⟨w1.heap.size, 0, none⟩) 1 1 [.string (s.extract k s.size)] (w1.heap.size + 1) rfl rfl (Row.lit w1 _ _ _ (by omega)) (by simp [Value.oneCell']) (fun e => by cases e) (by omega) (by omega) S2.size ?_
            intro v3 w3 o3 g3
            have S3 : Below w.heap.size w w3 := S2.grown g3 S2.size (fun j e => (ow.lt j e).1)
            refine hK _ _ S3 ?_
            clear hK K
            refine Seq.seq_read (v := ?_) (by rfl) ?_ ?_
            rotate_left
            · (intro w' hS; go_simp; with_reducible rfl)
            simp only [Act.put, List.setIfInBounds_toArray, List.set_cons_zero, List.set_cons_succ]
            refine Seq.seq_nil ?_
            go_wp2_with fail
            go_ret
            refine ⟨_, rfl, ?_, S3⟩
            rw [HSP.out]
            have e : strs ((L1 ++ [s.data.toList.drop k]).map str) = strs (L1.map str) ++ [.string (s.extract k s.size)] := by simp [strs, HT2.out]
            rw [e, List.length_append]
            exact o3
          · go_simp
            have S1 := (below_new hb (.cells #[.string (s.extract k s.size)] 9)).drew
            refine hK _ _ S1 ?_
            clear hK K
            refine Seq.on_seq [(4, true), (10, true), (11, false)] (by kernel_rfl) (fun _ _ d _ _ h => by cases d <;> exact h) S1 ?_
            simp only [Seq.lay, List.getElem?_cons_zero, List.getElem?_cons_succ]
            refine Seq.seq_do (by rfl) (fun K hK => ?_)
            go_simp
            refine (HI.out _).mono ?_
            rintro e w1 ⟨v1, rfl, o1, hb1⟩
            have S2 := below_cat S1 hb1
            refine hK _ _ S2 ?_
            clear hK K
            have ow := own_lower (a := w.heap.size) o1 S1.size
            have hrow := Row.lit wr 9 [.string (s.extract k s.size)] ((wr.alloc (.cells #[.string (s.extract k s.size)] 9)).drew.heap.size) (by simp)
            have hrow := Row.at' (w := (wr.alloc (.cells #[.string (s.extract k s.size)] 9)).drew) hrow hb1
            refine Seq.seq_do (by rfl) (fun K hK => ?_)
            refine wp_app elemStr (.tmp 22) (.tmp 27) rfl w.heap.size _ _ _ rfl ow (some ⟨wr.heap.size, 0, none⟩) 1 1 [.string (s.extract k s.size)] _ rfl rfl hrow (by simp [Value.oneCell']) (fun e => by cases e) (by omega) (by omega) S2.size ?_
            intro v3 w3 o3 g3
            have S3 : Below w.heap.size w w3 := S2.grown g3 S2.size (fun j e => (ow.lt j e).1)
            refine hK _ _ S3 ?_
            clear hK K
            refine Seq.seq_read (v := ?_) (by rfl) ?_ ?_
            rotate_left
            · (intro w' hS; go_simp; with_reducible rfl)
            simp only [Act.put, List.setIfInBounds_toArray, List.set_cons_zero, List.set_cons_succ]
            refine Seq.seq_nil ?_
            go_wp2_with fail
            go_ret
            refine ⟨_, rfl, ?_, S3⟩
            rw [HSP.out]
            have e : strs ((L1 ++ [s.data.toList.drop k]).map str) = strs (L1.map str) ++ [.string (s.extract k s.size)] := by simp [strs, HT2.out]
            rw [e, List.length_append]
            exact o3
        · have e1 : ((s[k - 1].toNat : Int) == (u.toNat : Int)) = false := by simp; intro h; exact heq (UInt8.toNat_inj.1 (by omega))
          have hc0 : (s.data.toList.drop (k - 1)).contains u = false := by
            rw [HD.out, List.contains_cons, HC.out]; simpa using fun e => heq e.symm
          have HC0 := Lib.hid hc0
          clear hc0
          go_wp2_with fail
          go_roundw
          case rel => exact ⟨k - 1, by omega, by go_num, HC0.out, hb⟩
          case measure => simp [intOf]
      · obtain rfl : k = 0 := by omega
        have hct := HC.out
        rw [List.drop_zero] at hct
        have hsp := split_none u _ hct
        have hst : str s.data.toList = s := mkB s
        have HS := Lib.hid hsp
        have HT := Lib.hid hst
        clear hct hsp hst
        go_wp2_with fail
        go_ret
        rw [HS.out]
        refine ⟨_, rfl, ?_, hb.alloc hb.size _⟩
        have ho := World.ownsRow_lit (base := w.heap.size) (e := 9) (size := 1) wr #[.string s] 1 hb.size (by decide) rfl
        have e : strs ([s.data.toList].map str) = [.string s] := by simp [strs, HT.out]
        rw [e]
        exact ho
end Go.Proofs.YtbacakgjhohedaaDoor.WordQ

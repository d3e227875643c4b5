/- The walks of bits.Write and bits.Read. -/
import Derived.Test.YtmcihmcgkhijcaaBitsT
import Derived.Test.YtmcihmcgkhijcaaShelf
import Derived.Lib.ItoaNum
namespace Go.Proofs.Ytmcihmcgkhijcaa.BitsW
open Go.RowKit Mem BitsP BitsS BitsT

/-- A field: its number and its width. -/
def fld (f : Nat × Int) : List Value := [.int .u64 (f.1 : Int), .int .i64 f.2]
theorem fld_len (f : Nat × Int) : (fld f).length = 2 := rfl
def chk : List (Nat × Int) → Nat
  | [] => 0
  | f :: r => if wOk f.2 = false then 3 else if 2 ^ f.2.toNat ≤ f.1 then 4 else chk r
def allBits (L : List (Nat × Int)) : List Nat := L.flatMap fun f => bitsOf f.1 f.2.toNat
theorem allBits_snoc (L : List (Nat × Int)) (f : Nat × Int) : allBits (L ++ [f]) = allBits L ++ bitsOf f.1 f.2.toNat := by simp [allBits]
theorem allBits_bin (L : List (Nat × Int)) : Bin (allBits L) := by
  intro b hb
  simp only [allBits, List.mem_flatMap] at hb
  obtain ⟨c, _, hb⟩ := hb
  exact bitsOf_bin _ _ b hb
theorem chk_app (a b : List (Nat × Int)) (h : chk a = 0) : chk (a ++ b) = chk b := by
  induction a with
  | nil => rfl
  | cons f r ih =>
    simp only [chk, List.cons_append] at h ⊢
    split at h
    · cases h
    · split at h
      · cases h
      · rename_i h1 h2; rw [if_neg h1, if_neg h2]; exact ih h
theorem wOk_iff (w : Int) : wOk w = true ↔ 1 ≤ w ∧ w ≤ 64 := by simp [wOk]
theorem allBits_len (L : List (Nat × Int)) (h : chk L = 0) : (allBits L).length ≤ 64 * L.length := by
  induction L with
  | nil => simp [allBits]
  | cons f r ih =>
    simp only [chk] at h
    split at h
    · cases h
    · split at h
      · cases h
      · rename_i h1 h2
        have h3 := (wOk_iff f.2).1 (by simpa using h1)
        have := ih h
        simp only [allBits, List.flatMap_cons, List.length_append, bitsOf_len, List.length_cons] at this ⊢
        omega
def writeF (L : List (Nat × Int)) : ByteArray × Nat := if 400 < L.length then (⟨#[]⟩, 2) else if chk L = 0 then (btx (allBits L), 0) else (⟨#[]⟩, chk L)
theorem bitLen_gt (n w : Nat) (hn : n < 18446744073709551616) : w < Lib.bitLen n ↔ 2 ^ w ≤ n := by
  by_cases h0 : n = 0
  · subst h0
    have e : Lib.bitLen 0 = 0 := Lib.bitLenAux_zero 64
    rw [e]
    have := Nat.two_pow_pos w
    omega
  · obtain ⟨h1, h2, h3⟩ := Lib.bitLenAux_bounds 64 n hn h0
    have e : Lib.bitLen n = Lib.bitLenAux 64 n := rfl
    rw [e]
    generalize Lib.bitLenAux 64 n = b at h1 h2 h3
    constructor
    · intro h; exact Nat.le_trans (Nat.pow_le_pow_right (by omega) (by omega)) h2
    · intro h
      rcases Nat.lt_or_ge w b with hh | hh
      · exact hh
      · have := Nat.pow_le_pow_right (show 0 < 2 by omega) hh
        omega
theorem SinkAt.same {w w' : World} {g : Nat} {p : Nat → Prop} {l : List Nat} (h : SinkAt w g p l) (hb : Below w.heap.size w w') : SinkAt w' g p l := by
  obtain ⟨hp, v, hg, hv, hown⟩ := h
  exact ⟨fun k hk => ⟨Nat.lt_of_lt_of_le (hp k hk).1 hb.size, (hp k hk).2⟩, v, (hb.block g (block_lt hg)).trans hg, hv, own_below hown hb⟩

theorem sink_new (w : World) : SinkAt (w.alloc (.cells #[.slice none 0 0, .int .i64 0] 80)) w.heap.size (· < w.heap.size) (allBits (([] : List (Nat × Int)).take 0)) :=
  ⟨fun k hk => ⟨by simp; omega, by omega⟩, .slice none 0 0, heap_alloc_new w _, (fun k h => by cases h), World.ownsRow_nil _ _ _ _⟩
theorem len64_any (n : Nat) (w : World) (hn : n < 18446744073709551616) : Calls Try.prog 60 #[.int .u64 n] w (fun e w' => e = .returned (.int .i64 ((Lib.bitLen n : Nat) : Int)) ∧ w' = w) :=
  (Try.bits_Len64 n w (by omega) (by omega)).mono fun _ _ h => h
def WPost (L : List (Nat × Int)) (w : World) (e : Ending) (w' : World) : Prop := e = .returned (.tuple #[.string (writeF L).1, .int .i64 ((writeF L).2 : Int)]) ∧ Below w.heap.size w w'
theorem wpost_bad {L : List (Nat × Int)} {w w' : World} (hl : ¬ 400 < L.length) {c : Nat} (hc : chk L = c) (h0 : c ≠ 0) (hb : Below w.heap.size w w') : WPost L w (.returned (.tuple #[.string ⟨#[]⟩, .int .i64 (c : Int)])) w' := by
  unfold WPost writeF; rw [if_neg hl, hc, if_neg h0]; exact ⟨rfl, hb⟩
theorem wpost_ok {L : List (Nat × Int)} {w w' : World} (hl : ¬ 400 < L.length) (hc : chk L = 0) (hb : Below w.heap.size w w') : WPost L w (.returned (.tuple #[.string (btx (allBits L)), .int .i64 0])) w' := by
  unfold WPost writeF; rw [if_neg hl, if_pos hc]; exact ⟨rfl, hb⟩

set_option maxHeartbeats 4000000 in
theorem write_any (A : Option Addr) (c : Nat) (L : List (Nat × Int)) (hL : ∀ f ∈ L, f.1 < 18446744073709551616) (w : World) (hr : Row w w.heap.size A (L.flatMap fld)) (hn : L.length ≤ 8796093022208) :
    Calls Try.prog 34 #[.slice A L.length c] w (WPost L w) := by
  by_cases hlen : 400 < L.length
  · have hpost : WPost L w (.returned (.tuple #[.string ⟨#[]⟩, .int .i64 2])) w := by
      unfold WPost writeF; rw [if_pos hlen]; exact ⟨rfl, Below.refl _ _⟩
    have HP := Lib.hid hpost
    clear hpost
    go_enter Try.func34, Try.ntmps34
    go_wp2_with fail
    go_ret2
    exact HP.out
  · have hlen' : decide (400 < L.length) = false := by simpa using hlen
    have HLEN := Lib.hid hlen
    go_enter Try.func34, Try.ntmps34
    go_wp2_with fail
    clear hlen
    go_loopw [16] (fun i wr => ∃ k : Nat, k ≤ L.length ∧ i = .int .i64 k ∧ chk (L.take k) = 0 ∧ SinkAt wr w.heap.size (· < w.heap.size) (allBits (L.take k)) ∧ Below w.heap.size w wr) (fun i _ => L.length - (intOf i).toNat)
    case atStart => exact ⟨0, Nat.zero_le _, rfl, rfl, sink_new w, (Below.refl _ _).alloc (Nat.le_refl _) _⟩
    case round =>
      obtain ⟨k, hk, rfl, hck, hsink, hb⟩ := hrel
      by_cases hlt : k < L.length
      · obtain ⟨b, o, rfl, hbB, hcs⟩ := Row.elems fld_len (hr.below hb) (by omega) (by omega)
        have hc0 := hcs k hlt 0 _ rfl
        have hc1 := hcs k hlt 1 _ rfl
        have htk : L.take (k + 1) = L.take k ++ [L[k]] := List.take_succ_eq_append_getElem hlt
        have hn64 := hL L[k] (List.getElem_mem hlt)
        have hall := chk_app (L.take k) (L.drop k) hck
        rw [List.take_append_drop, List.drop_eq_getElem_cons hlt] at hall
        have hsl := allBits_len _ hck
        rw [List.length_take] at hsl
        have hbin := allBits_bin (L.take k)
        have habs := allBits_snoc (L.take k) L[k]
        rw [← htk] at habs
        have hck1 := chk_app (L.take k) [L[k]] hck
        rw [← htk] at hck1
        have HALL := Lib.hid hall; have HABS := Lib.hid habs; have HCK1 := Lib.hid hck1; have HCK := Lib.hid hck; have HS := Lib.hid hsink; have HSL := Lib.hid hsl
        clear hall habs hck1 hck hsink hcs htk hsl
        generalize L[k] = f at hc0 hc1 hn64 HALL HABS HCK1
        obtain ⟨n, wd⟩ := f
        simp only [Nat.add_zero] at hc0
        have hbs := hb.size
        by_cases hok : wOk wd = true
        · obtain ⟨h1, h2⟩ := (wOk_iff wd).1 hok
          obtain ⟨W, rfl⟩ := Int.eq_ofNat_of_zero_le (show 0 ≤ wd by omega)
          have CB := Lib.hid (fun w' => len64_any n w' hn64)
          have hiff := bitLen_gt n W hn64
          generalize Lib.bitLen n = B at CB hiff
          by_cases hbig : 2 ^ W ≤ n
          · have hB := hiff.2 hbig
            have hck3 : chk L = 4 := by rw [HALL.out]; simp [chk, hok, hbig]
            have HC := Lib.hid hck3
            clear hck3 hiff hbig
            go_wp2_with fail
            refine (width_any _ _).mono ?_
            rintro e w1 ⟨rfl, rfl⟩
            go_wp2_with fail
            go_quiet ((go_at_call 60; exact Calls.quiet_of_same (CB.out _)))
            go_wp2_with fail
            go_ret2
            exact wpost_bad HLEN.out HC.out (by decide) (below_drewN (hb.alloc hbs _) _)
          · have hB : ¬ W < B := fun h => hbig (hiff.1 h)
            have hck4 : chk (L.take (k + 1)) = 0 := by rw [HCK1.out]; simp [chk, hok]; omega
            have HC := Lib.hid hck4
            have hsl := HSL.out
            clear hck4 hiff hbig HCK1
            go_wp2_with fail
            refine (width_any _ _).mono ?_
            rintro e w1 ⟨rfl, rfl⟩
            go_wp2_with fail
            go_quiet ((go_at_call 60; exact Calls.quiet_of_same (CB.out _)))
            go_wp2_with fail
            have hb1 : Below wr.heap.size wr (wr.alloc (.cells #[.int .u64 n, .int .i64 W] 50)) := (Below.refl _ _).alloc (Nat.le_refl _) _
            refine (put_any w.heap.size (· < w.heap.size) (allBits (L.take k)) n W hn64 (by omega) _ hbin (by omega) (SinkAt.same HS.out (below_drewN hb1 _))).mono ?_
            rintro e w2 ⟨rfl, hs2, hk2⟩
            have hb2 : Below w.heap.size w w2 := (hb.trans ((below_drewN hb1 _).mono hbs)).trans (hk2.below (by simp; omega) (fun k hk => hk))
            have HS2 := Lib.hid hs2
            clear hs2 hk2
            go_wp2_with fail
            go_roundw
            case rel => exact ⟨k + 1, by omega, by go_num, HC.out, by rw [HABS.out]; exact HS2.out, hb2⟩
            case measure => simp [intOf]; omega
        · have hok2 : wOk wd = false := by simpa using hok
          have hck3 : chk L = 3 := by rw [HALL.out]; simp [chk, hok2]
          have HC := Lib.hid hck3
          clear hck3
          go_wp2_with fail
          refine (width_any _ _).mono ?_
          rintro e w1 ⟨rfl, rfl⟩
          go_wp2_with fail
          go_ret2
          exact wpost_bad HLEN.out HC.out (by decide) (hb.alloc hbs _)
      · obtain rfl : k = L.length := by omega
        rw [List.take_length] at hck hsink
        have HC := Lib.hid hck; have HS := Lib.hid hsink
        clear hck hsink
        go_wp2_with fail
        refine (text_any w.heap.size (· < w.heap.size) (allBits L) wr (allBits_bin L) HS.out).mono ?_
        rintro e w1 ⟨rfl, rfl⟩
        go_wp2_with fail
        go_ret2
        exact wpost_ok HLEN.out HC.out hb
end Go.Proofs.Ytmcihmcgkhijcaa.BitsW

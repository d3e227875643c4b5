/- The walks of the reference's BitsOf and UnbitsOf. -/
import Derived.Test.YtmcihmcgkhijcaaBitsV
set_option pp.deepTerms true
set_option pp.maxSteps 1000000
namespace Go.Proofs.Ytmcihmcgkhijcaa.BitsX
open Go.RowKit Mem BitsP BitsS BitsT BitsW BitsR OneB BitsU BitsV

set_option maxRecDepth 100000 in
set_option maxHeartbeats 4000000 in
theorem bitsOf_any (A : Option Addr) (c : Nat) (L : List (Nat × Int)) (hL : ∀ f ∈ L, f.1 < 18446744073709551616) (w : World) (hr : Row w w.heap.size A (L.flatMap fld)) (hn : L.length ≤ 8796093022208) :
    Calls Try.prog 36 #[.slice A L.length c] w (WPost L w) := by
  by_cases hlen : 400 < L.length
  · have hpost : WPost L w (.returned (.tuple #[.string ⟨#[]⟩, .int .i64 2])) w := by
      unfold WPost writeF; rw [if_pos hlen]; exact ⟨rfl, Below.refl _ _⟩
    have HP := Lib.hid hpost
    clear hpost
    go_enter Try.func36, Try.ntmps36
    go_wp2_with fail
    go_ret2
    exact HP.out
  · have hlen' : decide (400 < L.length) = false := by simpa using hlen
    have HLEN := Lib.hid hlen
    go_enter Try.func36, Try.ntmps36
    go_wp2_with fail
    clear hlen
    go_loopw [4, 5] (fun v i wr => ∃ k : Nat, k ≤ L.length ∧ i = .int .i64 k ∧ chk (L.take k) = 0 ∧ wr.ownsRow w.heap.size 3 1 v (allBits (L.take k)).length (ints (allBits (L.take k))) ∧ Below w.heap.size w wr) (fun _ i _ => L.length - (intOf i).toNat)
    case atStart => exact ⟨0, Nat.zero_le _, rfl, rfl, World.ownsRow_nil _ _ _ _, Below.refl _ _⟩
    case round =>
      obtain ⟨k, hk, rfl, hck, hown, hb⟩ := hrel
      by_cases hlt : k < L.length
      · obtain ⟨b, o, rfl, hbB, hcs⟩ := Row.elems fld_len hr (by omega) (by omega)
        have cw0 := hcs k hlt 0 _ rfl
        have cw1 := hcs k hlt 1 _ rfl
        have hc0 := (hb.cell (p := ⟨b, o + k * 2 + 0, none⟩) hbB).trans cw0
        have hc1 := (hb.cell (p := ⟨b, o + k * 2 + 1, none⟩) hbB).trans cw1
        have htk : L.take (k + 1) = L.take k ++ [L[k]] := List.take_succ_eq_append_getElem hlt
        have hn64 := hL L[k] (List.getElem_mem hlt)
        have hall := chk_app (L.take k) (L.drop k) hck
        rw [List.take_append_drop, List.drop_eq_getElem_cons hlt] at hall
        have hsl := allBits_len _ hck
        rw [List.length_take] at hsl
        have habs := allBits_snoc (L.take k) L[k]
        rw [← htk] at habs
        have hck1 := chk_app (L.take k) [L[k]] hck
        rw [← htk] at hck1
        have HALL := Lib.hid hall; have HABS := Lib.hid habs; have HCK1 := Lib.hid hck1; have HCK := Lib.hid hck; have HSL := Lib.hid hsl
        clear hall habs hck1 hck hcs htk hsl
        generalize L[k] = f at hc0 hc1 cw0 cw1 hn64 HALL HABS HCK1
        obtain ⟨n, wd⟩ := f
        simp only [Nat.add_zero] at hc0 cw0
        have hbs := hb.size
        have hbW : b < wr.heap.size := by omega
        have hw1 : (0 : Int) ≤ (k : Int) := by omega
        have hw2 : (k : Int) < (L.length : Int) := by omega
        by_cases hlo : wd < 1
        · have hck3 : chk L = 3 := by rw [HALL.out]; simp [chk, wOk]; omega
          have HC := Lib.hid hck3
          clear hck3
          go_wp2_with fail
          go_ret2
          exact wpost_bad HLEN.out HC.out (by decide) hb
        · by_cases hhi : 64 < wd
          · have hck3 : chk L = 3 := by rw [HALL.out]; simp [chk, wOk]; omega
            have HC := Lib.hid hck3
            clear hck3
            have h1 : decide (wd < 1) = false := decide_eq_false hlo
            go_wp2_with fail
            go_ret2
            exact wpost_bad HLEN.out HC.out (by decide) hb
          · obtain ⟨W, rfl⟩ := Int.eq_ofNat_of_zero_le (show 0 ≤ wd by omega)
            have h1 : decide ((W : Int) < 1) = false := decide_eq_false hlo
            have h2 : decide ((64 : Int) < (W : Int)) = false := decide_eq_false hhi
            have hok : wOk (W : Int) = true := by rw [wOk_iff]; omega
            have CR := Lib.hid (fun w' => roomFor_any n W w' hn64 (by omega))
            by_cases hbig : n < 2 ^ W
            · have hck4 : chk (L.take (k + 1)) = 0 := by rw [HCK1.out]; simp [chk, hok]; omega
              have HC := Lib.hid hck4
              have hd : decide (n < 2 ^ W) = true := decide_eq_true hbig
              rw [hd] at CR
              clear hck4 hbig hd hok
              have CB := Lib.hid (fun w' => bitList_any n W w' hn64 (by omega))
              have hbl := bitsOf_len n W
              have HBL := Lib.hid hbl
              have habs2 := HABS.out
              simp only [Int.toNat_natCast] at habs2
              have HAB2 := Lib.hid habs2
              clear hbl habs2
              generalize bitsOf n W = q at CB HBL HAB2
              go_wp2_with fail
              refine Seq.region_any (S := fun w' => Below wr.heap.size wr w') [(0, false), (1, false), (2, false), (3, false), (4, false), (5, false), (6, false), (7, false), (8, false), (9, false), (10, true), (11, false)]
                (by kernel_rfl) (by kernel_rfl) (fun _ _ d _ _ h => by cases d <;> exact h) (Below.refl _ _).drew (fun wx hx => ?_)
              simp only [Seq.lay, List.getElem?_cons_zero, List.getElem?_cons_succ]
              repeat (first
                | (refine Seq.seq_read (v := ?_) (by rfl) ?_ ?_
                   rotate_left
                   · (intro w' hS; have d0 := (hS.cell (p := ⟨b, o + k * 2, none⟩) hbW).trans hc0; have d1 := (hS.cell (p := ⟨b, o + k * 2 + 1, none⟩) hbW).trans hc1; go_simp; with_reducible rfl)
                   simp only [Act.put, List.setIfInBounds_toArray, List.set_cons_zero, List.set_cons_succ]))
              refine Seq.seq_do (by rfl) (fun K hK => ?_)
              go_simp
              refine (CR.out _).mono ?_
              rintro e w1 ⟨rfl, rfl⟩
              refine hK _ _ hx ?_
              clear hK K
              refine Seq.seq_read (v := ?_) (by rfl) ?_ ?_
              rotate_left
              · (intro w' hS; go_simp; with_reducible rfl)
              simp only [Act.put, List.setIfInBounds_toArray, List.set_cons_zero, List.set_cons_succ]
              refine Seq.seq_nil ?_
              go_wp2_with fail
              refine Seq.region_seq (S := fun w' => Below w.heap.size w w') [(0, false), (1, false), (2, false), (3, false), (4, false), (5, false), (6, false), (7, false), (8, false), (9, false), (10, false), (11, true), (12, true), (13, false)]
                (by kernel_rfl) (by kernel_rfl) (fun _ _ d _ _ h => by cases d <;> exact h) (below_cat hb hx).drew ?_
              simp only [Seq.lay, List.getElem?_cons_zero, List.getElem?_cons_succ]
              repeat (first
                | (refine Seq.seq_read (v := ?_) (by rfl) ?_ ?_
                   rotate_left
                   · (intro w' hS; have d0 := (hS.cell (p := ⟨b, o + k * 2, none⟩) hbB).trans cw0; have d1 := (hS.cell (p := ⟨b, o + k * 2 + 1, none⟩) hbB).trans cw1; go_simp; with_reducible rfl)
                   simp only [Act.put, List.setIfInBounds_toArray, List.set_cons_zero, List.set_cons_succ]))
              refine Seq.seq_do (by rfl) (fun K hK => ?_)
              go_simp
              refine (CB.out _).mono ?_
              rintro e w1 ⟨v1, rfl, o1, hb1⟩
              have S1r := below_cat hx.drew hb1
              have S1 := below_cat hb S1r
              refine hK _ _ S1 ?_
              clear hK K
              obtain ⟨A1, c1, rfl, n1, _, r1⟩ := own_row o1
              have hown1 := own_below hown S1r
              have hsl := HSL.out
              refine Seq.seq_do (by rfl) (fun K hK => ?_)
              refine wp_app elemInt (.tmp 41) (.tmp 52) rfl w.heap.size _ _ _ rfl hown1 A1 W c1 (ints q) w1.heap.size rfl (by simp [ints, HBL.out]) r1 (by simp [ints, Value.oneCell']) (fun e => (n1 e).1) (by omega) (by omega) S1.size ?_
              intro v' w3 o3 g3
              have hrow := fun j e => (hown1.lt j e).1
              have S3 : Below w.heap.size w w3 := S1.grown g3 S1.size (fun j e => hrow j e)
              refine hK _ _ S3 ?_
              clear hK K
              refine Seq.seq_read (v := ?_) (by rfl) ?_ ?_
              rotate_left
              · (intro w' hS; go_simp; with_reducible rfl)
              simp only [Act.put, List.setIfInBounds_toArray, List.set_cons_zero, List.set_cons_succ]
              refine Seq.seq_nil ?_
              have O3 := Lib.hid o3
              clear o3 o1 hown1
              go_wp2_with fail
              go_roundw
              case rel =>
                refine ⟨k + 1, by omega, by go_num, HC.out, ?_, S3⟩
                rw [HAB2.out]
                have := O3.out
                rw [← HBL.out] at this
                simpa [ints] using this
              case measure => simp [intOf]; omega
            · have hck3 : chk L = 4 := by rw [HALL.out]; simp [chk, hok]; omega
              have HC := Lib.hid hck3
              have hd : decide (n < 2 ^ W) = false := decide_eq_false hbig
              rw [hd] at CR
              clear hck3 hbig hd hok
              go_wp2_with fail
              go_quiet ((go_at_call 64; exact Calls.quiet_of_same ((CR.out _).mono (fun _ _ ⟨a, b⟩ => ⟨a, b.symm⟩))))
              go_wp2_with fail
              go_ret2
              exact wpost_bad HLEN.out HC.out (by decide) (below_drewN hb _)
      · obtain rfl : k = L.length := by omega
        rw [List.take_length] at hck hown
        have HC := Lib.hid hck
        have hal := allBits_len L hck
        clear hck
        obtain ⟨A1, c1, rfl, n1, _, r1⟩ := own_row hown
        go_wp2_with fail
        refine (bitBytes_any A1 c1 (allBits L) wr r1 (allBits_bin L) (by omega)).mono ?_
        rintro e w1 ⟨rfl, hb1⟩
        go_wp2_with fail
        go_ret2
        exact wpost_ok HLEN.out HC.out (below_cat hb hb1)

theorem ints_drop (l : List Nat) (n : Nat) : ints (l.drop n) = (ints l).drop n := by simp [ints, List.map_drop]
theorem Row.drop {w : World} {B b o : Nat} {cs : List Value} (h : Row w B (some ⟨b, o, none⟩) cs) (n : Nat) : Row w B (some ⟨b, o + n, none⟩) (cs.drop n) := fun hl => by
  rw [List.length_drop] at hl
  obtain ⟨b', o', e, hlt, hc⟩ := h (by omega)
  cases e
  refine ⟨_, _, rfl, hlt, fun j hj => ?_⟩
  rw [List.length_drop] at hj
  rw [Nat.add_assoc, hc (n + j) (by omega)]
  simp
theorem Row.take {w : World} {B : Nat} {A : Option Addr} {cs : List Value} (h : Row w B A cs) (n : Nat) : Row w B A (cs.take n) := fun hl => by
  rw [List.length_take] at hl
  obtain ⟨b', o', e, hlt, hc⟩ := h (by omega)
  refine ⟨_, _, e, hlt, fun j hj => ?_⟩
  rw [List.length_take] at hj
  rw [hc j (by omega)]
  simp
set_option maxRecDepth 100000 in
set_option maxHeartbeats 4000000 in
theorem unbitsOf_any (s : ByteArray) (A : Option Addr) (c : Nat) (ws : List Int) (w : World) (hs : s.size ≤ 2199023255552) (hr : Row w w.heap.size A (ws.map fun x => Value.int .i64 x)) (hn : ws.length ≤ 140737488355328) :
    Calls Try.prog 37 #[.string s, .slice A ws.length c] w (RPost (readF s ws) w) := by
  by_cases hlen : 400 < ws.length
  · have hpost : RPost (readF s ws) w (.returned (.tuple #[.slice none 0 0, .int .i64 0, .int .i64 2])) w := by
      unfold readF; rw [if_pos hlen]; exact ⟨none, 0, rfl, fun _ => ⟨rfl, rfl⟩, Row.nil _ _ _, Below.refl _ _⟩
    have HP := Lib.hid hpost
    clear hpost
    go_enter Try.func37, Try.ntmps37
    go_wp2_with fail
    go_ret3
    exact HP.out
  · have hlen' : decide (400 < ws.length) = false := by simpa using hlen
    have HLEN := Lib.hid hlen
    have htl := tbits_len s.data.toList
    have hsl : s.data.toList.length = s.size := by simp
    rw [hsl] at htl
    have HTL := Lib.hid htl
    have hbin := tbits_bin s.data.toList
    clear htl hsl
    have CT := Lib.hid (textBits_any s w hs)
    go_enter Try.func37, Try.ntmps37
    go_wp2_with fail
    refine CT.out.mono ?_
    rintro e w1 ⟨v1, rfl, o1, hb1⟩
    obtain ⟨A1, c1, rfl, n1, _, r1⟩ := own_row o1
    have hc1 : 8 * s.size ≤ c1 := by
      rcases o1.2 with ⟨h, h2⟩ | ⟨g, cap, cur, h, _, _, h2, _⟩
      · omega
      · simp at h; omega
    have hr1 := (hr.below hb1)
    have hbs1 := hb1.size
    clear hlen CT o1
    go_wp2_with fail
    go_loopw [7, 8, 9] (fun lv v i wr => ∃ (k : Nat) (A' : Option Addr) (c' : Nat), k ≤ ws.length ∧ i = .int .i64 k ∧ rchk (tbits s.data.toList) (ws.take k) = 0 ∧ lv = .slice A' (8 * s.size - rlen (ws.take k)) c' ∧ 8 * s.size - rlen (ws.take k) ≤ c' ∧ (A' = none → 8 * s.size - rlen (ws.take k) = 0) ∧
      Row w1 w1.heap.size A' (ints ((tbits s.data.toList).drop (rlen (ws.take k)))) ∧ wr.ownsRow w1.heap.size 26 1 v k (u64s (rnums (tbits s.data.toList) (ws.take k))) ∧ Below w1.heap.size w1 wr) (fun _ _ i _ => ws.length - (intOf i).toNat)
    case atStart => exact ⟨0, A1, c1, Nat.zero_le _, rfl, rfl, rfl, hc1, fun e => (n1 e).2, r1, World.ownsRow_nil _ _ _ _, Below.refl _ _⟩
    case round =>
      obtain ⟨k, A', c', hk, rfl, hck, rfl, hcc, hnil, hrow', hown, hb⟩ := hrel
      have hle := rchk_le _ _ hck
      rw [HTL.out] at hle
      have hbw := hb1.trans (hb.mono hbs1)
      by_cases hlt : k < ws.length
      · obtain ⟨b, o, rfl, hbB, hcs⟩ := (hr.below hbw).open' (by simp; omega)
        have hc0 := hcs k (.int .i64 ws[k]) (by simp [hlt])
        have htk : ws.take (k + 1) = ws.take k ++ [ws[k]] := List.take_succ_eq_append_getElem hlt
        have hall := rchk_app _ (ws.take k) (ws.drop k) hck
        rw [List.take_append_drop, List.drop_eq_getElem_cons hlt] at hall
        have hck1 := rchk_app _ (ws.take k) [ws[k]] hck
        have hnum := rnums_app (tbits s.data.toList) (ws.take k) [ws[k]]
        have hrl := rlen_app (ws.take k) [ws[k]]
        rw [← htk] at hck1 hnum hrl
        have htd : ((tbits s.data.toList).drop (rlen (ws.take k))).length = 8 * s.size - rlen (ws.take k) := by rw [List.length_drop, HTL.out]
        have HALL := Lib.hid hall; have HCK1 := Lib.hid hck1; have HNUM := Lib.hid hnum; have HRL := Lib.hid hrl; have HTD := Lib.hid htd
        have HCK := Lib.hid hck
        clear hall hck1 hnum hrl htd hck hcs htk
        generalize ws[k] = wd at hc0 HALL HCK1 HNUM HRL
        have hbs := hb.size
        by_cases hlo : wd < 1
        · have hck3 : rchk (tbits s.data.toList) ws = 3 := by rw [HALL.out]; simp [rchk, wOk]; omega
          have HC := Lib.hid hck3
          clear hck3
          go_wp2_with fail
          go_ret3
          exact rpost_bad HLEN.out HC.out (by decide) hbw
        · by_cases hhi : 64 < wd
          · have hck3 : rchk (tbits s.data.toList) ws = 3 := by rw [HALL.out]; simp [rchk, wOk]; omega
            have HC := Lib.hid hck3
            clear hck3
            have h1 : decide (wd < 1) = false := decide_eq_false hlo
            go_wp2_with fail
            go_ret3
            exact rpost_bad HLEN.out HC.out (by decide) hbw
          · obtain ⟨W, rfl⟩ := Int.eq_ofNat_of_zero_le (show 0 ≤ wd by omega)
            have h1 : decide ((W : Int) < 1) = false := decide_eq_false hlo
            have h2 : decide ((64 : Int) < (W : Int)) = false := decide_eq_false hhi
            have hok : wOk (W : Int) = true := by rw [wOk_iff]; omega
            generalize hmm : 8 * s.size - rlen (ws.take k) = m at hcc hnil HTD
            have HMM := Lib.hid hmm
            have hms : m ≤ 8 * s.size := by omega
            clear hmm
            by_cases hbig : m < W
            · have hck3 : rchk (tbits s.data.toList) ws = 5 := by rw [HALL.out]; simp [rchk, hok, HTD.out]; omega
              have HC := Lib.hid hck3
              clear hck3 hok
              go_wp2_with fail
              go_ret3
              exact rpost_bad HLEN.out HC.out (by decide) hbw
            · have hck4 : rchk (tbits s.data.toList) (ws.take (k + 1)) = 0 := by rw [HCK1.out]; simp [rchk, hok, HTD.out]; omega
              have HC := Lib.hid hck4
              have hrl2 := HRL.out
              simp only [rlen, Int.toNat_natCast, Nat.add_zero] at hrl2
              have hnum2 := HNUM.out
              simp only [rnums, Int.toNat_natCast] at hnum2
              have hdd : ((tbits s.data.toList).drop (rlen (ws.take k))).drop W = (tbits s.data.toList).drop (rlen (ws.take (k + 1))) := by rw [List.drop_drop, hrl2]
              have HRL2 := Lib.hid hrl2; have HNUM2 := Lib.hid hnum2; have HDD := Lib.hid hdd
              clear hck4 HCK1 hok hrl2 hnum2 hdd
              have hbd : Bin ((tbits s.data.toList).drop (rlen (ws.take k))) := fun x hx => hbin x (List.mem_of_mem_drop hx)
              generalize (tbits s.data.toList).drop (rlen (ws.take k)) = T at hrow' HTD HNUM2 HDD hbd
              obtain ⟨b', o', rfl⟩ : ∃ b' o', A' = some ⟨b', o', none⟩ := by
                obtain ⟨b', o', e, _⟩ := hrow' (by rw [show (ints T).length = m from by simp [ints, HTD.out]]; omega)
                exact ⟨b', o', e⟩
              have hlw : (T.take W).length = W := by have := HTD.out; rw [List.length_take]; omega
              have CN := (fun wx (hx : Below w1.heap.size w1 wx) => bitNumber_any (some ⟨b', o', none⟩) c' (T.take W) wx (by
                have h0 := ((Row.take hrow' W).below hx).more hx.size
                have e : (ints T).take W = ints (T.take W) := by simp [ints, List.map_take]
                rw [e] at h0; exact h0) (fun x hx => hbd x (List.mem_of_mem_take hx)) (by rw [hlw]; omega))
              rw [hlw] at CN
              have CN2 := Lib.hid CN
              have HR := Lib.hid hrow'
              clear CN hlw hrow'
              generalize num (T.take W) = x at CN2 HNUM2
              by_cases hcw : W = c'
              · have hmw : m = W := by omega
                have hw1 : (W : Int) ≤ (c' : Int) := by omega
                subst hcw
                obtain rfl : m = W := by omega
                go_wp2_with (first
                  | (refine (CN2.out _ hb).mono ?_
                     rintro e w2 ⟨rfl, rfl⟩)
                  | (at_builtin
                     refine app elemU64 rfl (.tmp 36) (.tmp 41) rfl w1.heap.size _ k _ rfl (hown.alloc _) (some ⟨wr.heap.size, 0, none⟩) 1 1 [.int .u64 x] (wr.heap.size + 1) rfl rfl (Row.lit wr _ [.int .u64 x] _ (by omega)) (by simp [Value.oneCell']) (fun e => by cases e) (by omega) (by omega) (by simp; omega) ?_
                     intro v' w3 o3 g3
                     have O3 := Lib.hid o3
                     have G3 := Lib.hid g3
                     clear o3 g3))
                go_roundw
                case rel =>
                  have hrow := fun j e => (hown.lt j e).1
                  have S3 : Below w1.heap.size w1 w3 := (hb.alloc hb.size _).grown G3.out (hb.alloc hb.size _).size (fun j e => hrow j e)
                  have e1 := HRL2.out
                  have e2 := HMM.out
                  refine ⟨k + 1, some ⟨b', o', none⟩, 0, by omega, by go_num, HC.out, by rw [show 8 * s.size - rlen (ws.take (k + 1)) = 0 from by omega], by omega, (fun e => by cases e), ?_, ?_, S3⟩
                  · rw [← HDD.out, ints_drop]
                    rw [List.drop_of_length_le (by simp [ints, HTD.out])]; exact Row.nil _ _ _
                  · rw [HNUM2.out]
                    simpa [u64s] using O3.out
                case measure => simp [intOf]; omega
              · have hw1 : W ≤ c' := by omega
                have hw2 : W ≤ m := by omega
                go_wp2_with (first
                  | (refine (CN2.out _ hb).mono ?_
                     rintro e w2 ⟨rfl, rfl⟩)
                  | (at_builtin
                     refine app elemU64 rfl (.tmp 36) (.tmp 41) rfl w1.heap.size _ k _ rfl (hown.alloc _) (some ⟨wr.heap.size, 0, none⟩) 1 1 [.int .u64 x] (wr.heap.size + 1) rfl rfl (Row.lit wr _ [.int .u64 x] _ (by omega)) (by simp [Value.oneCell']) (fun e => by cases e) (by omega) (by omega) (by simp; omega) ?_
                     intro v' w3 o3 g3
                     have O3 := Lib.hid o3
                     have G3 := Lib.hid g3
                     clear o3 g3))
                go_roundw
                case rel =>
                  have hrow := fun j e => (hown.lt j e).1
                  have S3 : Below w1.heap.size w1 w3 := (hb.alloc hb.size _).grown G3.out (hb.alloc hb.size _).size (fun j e => hrow j e)
                  have e1 := HRL2.out
                  have e2 := HMM.out
                  refine ⟨k + 1, some ⟨b', o' + W, none⟩, c' - W, by omega, by go_num, HC.out, by rw [show 8 * s.size - rlen (ws.take (k + 1)) = m - W from by omega], by omega, (fun e => by cases e), ?_, ?_, S3⟩
                  · rw [← HDD.out, ints_drop]
                    exact Row.drop HR.out W
                  · rw [HNUM2.out]
                    simpa [u64s] using O3.out
                case measure => simp [intOf]; omega
      · obtain rfl : k = ws.length := by omega
        rw [List.take_length] at hck hown hle
        have HC := Lib.hid hck
        clear hck
        go_wp2_with fail
        go_ret3
        rw [List.take_length]
        exact rpost_ok HLEN.out HC.out hbw hown rfl
end Go.Proofs.Ytmcihmcgkhijcaa.BitsX

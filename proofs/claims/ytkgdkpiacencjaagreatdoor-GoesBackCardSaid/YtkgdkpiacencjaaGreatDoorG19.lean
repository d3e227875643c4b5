/- Texts of the proof, joined: CookV, SufQ, SufT, CookL. -/
import Derived.Test.YtkgdkpiacencjaaGreatDoorG9
import Derived.Test.YtkgdkpiacencjaaGreatDoorG18
import Derived.Test.YtkgdkpiacencjaaGreatDoorG17
section
namespace Go.Proofs.YtkgdkpiacencjaaGreatDoor.CookV
open Go.RowKit Mem Abs TreeW WordP WordS HostP HostO HostA HostB HostC HostD PathT Globs StampB StampG ClockP ClockW ClockO ClockV CookP Both CookW

abbrev mkA (d1 d2 d3 d4 : List UInt8) (d5 d6 d7 d8 : Bool) (d9 d10 d11 d12 d13 : Int) (f1 f2 : List UInt8) (f3 f4 f5 : Bool) (now : Int) (m1 m2 m3 : Bool) : Abs.V := .agg [strT d1, strT d2, strT d3, strT d4, .bool d5, .bool d6, .bool d7, .bool d8, .int .i64 d9, .int .i64 d10, .int .i64 d11, .int .i64 d12, .int .i64 d13, strT f1, strT f2, .bool f3, .bool f4, .bool f5, .int .i64 now, .bool m1, .bool m2, .bool m3]
theorem awp_share {P : Program} {N : Env} {c : Code} {Q : Exit → S → Prop} {s1 : S} {G : Prop} (p : Prop) (main : (p → AWp P N c Q s1) → G) (k : p → AWp P N c Q s1) : G := main k
theorem awp_cutRH {P : Program} {N : Env} {id : Nat} {l : Array Oper} {d : Bool} {x y : Code} {Q : Exit → S → Prop} {s s1 : S} (k : AWp P N (.seq (.seq (.region id l d) x) y) Q s1) (h : LeI N.K s1 s) : AWp P N (.seq (.seq (.region id l d) x) y) Q s := awp_lei h k
theorem awp_cutRS {P : Program} {N : Env} {id : Nat} {l : Array Oper} {d : Bool} {x : Code} {Q : Exit → S → Prop} {s s1 : S} (k : AWp P N (.seq (.region id l d) x) Q s1) (h : LeI N.K s1 s) : AWp P N (.seq (.region id l d) x) Q s := awp_lei h k
theorem awp_cutc {P : Program} {N : Env} {d : Nat} {x y : Code} {Q : Exit → S → Prop} {s s1 : S} (k : AWp P N (.cond (.tmp d) x y) Q s1) (h : LeI N.K s1 s) : AWp P N (.cond (.tmp d) x y) Q s := awp_lei h k
set_option maxRecDepth 100000 in
set_option maxHeartbeats 4000000 in
theorem own_v {L : List Suffix} {f : From} {now : Int} {m : Mk} (hL : SufP.checkF L = 0) (hf : f.host.length ≤ 253) : MCallsG Tryz.prog gStr 31 [.loc 0 0 0, SufW.sufT L] [rowM f now m] (.int .i64 (ownF L f m).1) [some (rowM f now (ownF L f m).2)] := by
  obtain ⟨hR, h16⟩ := SufP.check_rules hL
  have c1 := SufW.host_v (l := m.c.domain)
  unfold ownF
  obtain ⟨f1, f2, f3, f4, f5⟩ := f
  obtain ⟨⟨d1, d2, d3, d4, d5, d6, d7, d8, d9, d10, d11, d12, d13⟩, m1, m2, m3⟩ := m
  dsimp only at *
  cases m2
  · rw [if_pos rfl]
    refine mfunG tb_ok Tryz.func31 rfl Tryz.ntmps31 Tryz.results31 rfl rfl rfl rfl fun N pl => ?_
    repeat' (first | refine zt ?_ | (refine isR ?_; first | refine zo ?_ | refine zc5 ?_ | refine zc6 ?_ | (refine zs5 ?_ ?_ <;> intro hc) | (refine zs6 ?_ ?_ <;> intro hc)) | refine awp_split rfl (fun hb => ?_) (fun hb => ?_) | refine x_mret [0] ?_ ?_ | refine x_mnor [0] ?_ ?_ | refine zr ?_ | exact x_le)
    · rfl
    · exact .on (.ren rfl) .nil
  rw [if_neg (by decide)]
  cases hh : SufP.hostOk d3 with
  | false =>
    rw [hh] at c1
    rw [if_pos rfl]
    refine mfunG tb_ok Tryz.func31 rfl Tryz.ntmps31 Tryz.results31 rfl rfl rfl rfl fun N pl => ?_
    repeat' (first | refine zt ?_ | (refine isR ?_; first | refine zo ?_ | refine zk c1 ?_ | refine zc5 ?_ | refine zc6 ?_ | (refine zs5 ?_ ?_ <;> intro hc) | (refine zs6 ?_ ?_ <;> intro hc)) | refine awp_split rfl (fun hb => ?_) (fun hb => ?_) | refine x_mret [0] ?_ ?_ | refine x_mnor [0] ?_ ?_ | refine zr ?_ | exact x_le)
    · rfl
    · exact .on (.ren rfl) .nil
  | true =>
    have hst := (SufP.host_iff _).1 hh
    have hlen := hst.len
    have c2 := SufR.raw_v hR hst
    have c3 := match_v (l := f1) (m := d3) (by omega) (by omega)
    rw [hh] at c1
    rw [if_neg (by decide)]
    generalize SufP.pubF L d3 = p at *
    by_cases hp : p = d3
    · rw [if_pos hp]
      by_cases hd : d3 = f1
      · rw [if_pos hd]
        refine mfunG tb_ok Tryz.func31 rfl Tryz.ntmps31 Tryz.results31 rfl rfl rfl rfl fun N pl => ?_
        repeat' (first | refine zt ?_ | (refine isR ?_; first | refine zo ?_ | refine zk c1 ?_ | refine zk c2 ?_ | refine zc5 ?_ | refine zc6 ?_ | (refine zs5 ?_ ?_ <;> intro hc) | (refine zs6 ?_ ?_ <;> intro hc)) | refine awp_split rfl (fun hb => ?_) (fun hb => ?_) | refine x_mret [0] ?_ ?_ | refine x_mnor [0] ?_ ?_ | refine zr ?_ | exact x_le)
        · rfl
        · exact .on (.ren rfl) .nil
      · rw [if_neg hd]
        refine mfunG tb_ok Tryz.func31 rfl Tryz.ntmps31 Tryz.results31 rfl rfl rfl rfl fun N pl => ?_
        repeat' (first | refine zt ?_ | (refine isR ?_; first | refine zo ?_ | refine zk c1 ?_ | refine zk c2 ?_ | refine zc5 ?_ | refine zc6 ?_ | (refine zs5 ?_ ?_ <;> intro hc) | (refine zs6 ?_ ?_ <;> intro hc)) | refine awp_split rfl (fun hb => ?_) (fun hb => ?_) | refine x_mret [0] ?_ ?_ | refine x_mnor [0] ?_ ?_ | refine zr ?_ | exact x_le)
        · rfl
        · exact .on (.ren rfl) .nil
    · rw [if_neg hp]
      cases hm : matchF f1 d3 with
      | true =>
        rw [hm] at c3
        rw [if_pos rfl]
        refine mfunG tb_ok Tryz.func31 rfl Tryz.ntmps31 Tryz.results31 rfl rfl rfl rfl fun N pl => ?_
        repeat' (first | refine zt ?_ | (refine isR ?_; first | refine zo ?_ | refine zk c1 ?_ | refine zk c2 ?_ | refine zk c3 ?_ | refine zc5 ?_ | refine zc6 ?_ | (refine zs5 ?_ ?_ <;> intro hc) | (refine zs6 ?_ ?_ <;> intro hc)) | refine awp_split rfl (fun hb => ?_) (fun hb => ?_) | refine x_mret [0] ?_ ?_ | refine x_mnor [0] ?_ ?_ | refine zr ?_ | exact x_le)
        · rfl
        · exact .on (.ren rfl) .nil
      | false =>
        rw [hm] at c3
        rw [if_neg (by decide)]
        refine mfunG tb_ok Tryz.func31 rfl Tryz.ntmps31 Tryz.results31 rfl rfl rfl rfl fun N pl => ?_
        repeat' (first | refine zt ?_ | (refine isR ?_; first | refine zo ?_ | refine zk c1 ?_ | refine zk c2 ?_ | refine zk c3 ?_ | refine zc5 ?_ | refine zc6 ?_ | (refine zs5 ?_ ?_ <;> intro hc) | (refine zs6 ?_ ?_ <;> intro hc)) | refine awp_split rfl (fun hb => ?_) (fun hb => ?_) | refine x_mret [0] ?_ ?_ | refine x_mnor [0] ?_ ?_ | refine zr ?_ | exact x_le)
        · rfl
        · exact .on (.ren rfl) .nil
set_option maxRecDepth 100000 in
set_option maxHeartbeats 4000000 in
theorem barred_v {f : From} {now : Int} {m : Mk} : MCalls Tryz.prog 32 [.loc 0 0 0] [rowM f now m] (.bool (barF f m)) [some (rowM f now m)] := by
  have c1 := fold_v (l := m.c.name)
  have c2 := hasPrefix_v (l := fold m.c.name) (m := pSec)
  have c3 := hasPrefix_v (l := fold m.c.name) (m := pHost)
  unfold barF
  obtain ⟨f1, f2, f3, f4, f5⟩ := f
  obtain ⟨⟨d1, d2, d3, d4, d5, d6, d7, d8, d9, d10, d11, d12, d13⟩, m1, m2, m3⟩ := m
  dsimp only at *
  generalize fold d1 = n at *
  generalize pre n pSec = x1 at *
  generalize pre n pHost = x2 at *
  show MCalls _ _ [.loc 0 0 0] [.els 56 22 [mkA d1 d2 d3 d4 d5 d6 d7 d8 d9 d10 d11 d12 d13 f1 f2 f3 f4 f5 now m1 m2 m3]] _ [some (.els 56 22 [mkA d1 d2 d3 d4 d5 d6 d7 d8 d9 d10 d11 d12 d13 f1 f2 f3 f4 f5 now m1 m2 m3])]
  by_cases hz : (d7 && f4 || d6 && !f3) = true
  · rw [if_pos hz]
    cases d7 <;> cases f4 <;> cases d6 <;> cases f3
    all_goals first
      | exact absurd hz (by decide)
      | skip
    all_goals
      refine mfun tb_ok Tryz.func32 rfl Tryz.ntmps32 Tryz.results32 rfl rfl rfl rfl fun N pl => ?_
      repeat' (first | refine zt ?_ | (refine isR ?_; first | refine zo ?_ | refine zc6 ?_ | (refine zs6 ?_ ?_ <;> intro hc)) | refine awp_split rfl (fun hb => ?_) (fun hb => ?_) | refine x_mret [0] ?_ ?_ | refine x_mnor [0] ?_ ?_ | refine zr ?_ | exact x_le)
      · rfl
      · exact .on (.ren rfl) .nil
  · rw [if_neg hz]
    cases d7 <;> cases f4 <;> cases d6 <;> cases f3
    all_goals first
      | exact absurd rfl hz
      | skip
    all_goals
      clear hz
      cases x1
      · rw [if_neg (by decide)]
        cases x2
        · rw [if_neg (by decide)]
          refine mfun tb_ok Tryz.func32 rfl Tryz.ntmps32 Tryz.results32 rfl rfl rfl rfl fun N pl => ?_
          repeat' (first | refine zt ?_ | (refine isR ?_; first | refine zo ?_ | refine zk c1 ?_ | refine zk c2 ?_ | refine zk c3 ?_ | refine zc6 ?_ | (refine zs6 ?_ ?_ <;> intro hc)) | refine awp_split rfl (fun hb => ?_) (fun hb => ?_) | refine x_mret [0] ?_ ?_ | refine x_mnor [0] ?_ ?_ | refine zr ?_ | exact x_le)
          · rfl
          · exact .on (.ren rfl) .nil
        · rw [if_pos rfl]
          cases d5
          · skip
            refine mfun tb_ok Tryz.func32 rfl Tryz.ntmps32 Tryz.results32 rfl rfl rfl rfl fun N pl => ?_
            repeat' (first | refine zt ?_ | (refine isR ?_; first | refine zo ?_ | refine zk c1 ?_ | refine zk c2 ?_ | refine zk c3 ?_ | refine zc6 ?_ | (refine zs6 ?_ ?_ <;> intro hc)) | refine awp_split rfl (fun hb => ?_) (fun hb => ?_) | refine x_mret [0] ?_ ?_ | refine x_mnor [0] ?_ ?_ | refine zr ?_ | exact x_le)
            · rfl
            · exact .on (.ren rfl) .nil
          cases m2
          · by_cases hp : d4 = [47]
            · rw [decide_eq_true hp]
              cases m3
              · skip
                refine mfun tb_ok Tryz.func32 rfl Tryz.ntmps32 Tryz.results32 rfl rfl rfl rfl fun N pl => ?_
                repeat' (first | refine zt ?_ | (refine isR ?_; first | refine zo ?_ | refine zk c1 ?_ | refine zk c2 ?_ | refine zk c3 ?_ | refine zc6 ?_ | (refine zs6 ?_ ?_ <;> intro hc)) | refine awp_split rfl (fun hb => ?_) (fun hb => ?_) | refine x_mret [0] ?_ ?_ | refine x_mnor [0] ?_ ?_ | refine zr ?_ | exact x_le)
                · rfl
                · exact .on (.ren rfl) .nil
              · skip
                refine mfun tb_ok Tryz.func32 rfl Tryz.ntmps32 Tryz.results32 rfl rfl rfl rfl fun N pl => ?_
                repeat' (first | refine zt ?_ | (refine isR ?_; first | refine zo ?_ | refine zk c1 ?_ | refine zk c2 ?_ | refine zk c3 ?_ | refine zc6 ?_ | (refine zs6 ?_ ?_ <;> intro hc)) | refine awp_split rfl (fun hb => ?_) (fun hb => ?_) | refine x_mret [0] ?_ ?_ | refine x_mnor [0] ?_ ?_ | refine zr ?_ | exact x_le)
                · rfl
                · exact .on (.ren rfl) .nil
            · rw [decide_eq_false hp]
              refine mfun tb_ok Tryz.func32 rfl Tryz.ntmps32 Tryz.results32 rfl rfl rfl rfl fun N pl => ?_
              repeat' (first | refine zt ?_ | (refine isR ?_; first | refine zo ?_ | refine zk c1 ?_ | refine zk c2 ?_ | refine zk c3 ?_ | refine zc6 ?_ | (refine zs6 ?_ ?_ <;> intro hc)) | refine awp_split rfl (fun hb => ?_) (fun hb => ?_) | refine x_mret [0] ?_ ?_ | refine x_mnor [0] ?_ ?_ | refine zr ?_ | exact x_le)
              · rfl
              · exact .on (.ren rfl) .nil
          · skip
            refine mfun tb_ok Tryz.func32 rfl Tryz.ntmps32 Tryz.results32 rfl rfl rfl rfl fun N pl => ?_
            repeat' (first | refine zt ?_ | (refine isR ?_; first | refine zo ?_ | refine zk c1 ?_ | refine zk c2 ?_ | refine zk c3 ?_ | refine zc6 ?_ | (refine zs6 ?_ ?_ <;> intro hc)) | refine awp_split rfl (fun hb => ?_) (fun hb => ?_) | refine x_mret [0] ?_ ?_ | refine x_mnor [0] ?_ ?_ | refine zr ?_ | exact x_le)
            · rfl
            · exact .on (.ren rfl) .nil
      · rw [if_pos rfl]
        refine mfun tb_ok Tryz.func32 rfl Tryz.ntmps32 Tryz.results32 rfl rfl rfl rfl fun N pl => ?_
        repeat' (first | refine zt ?_ | (refine isR ?_; first | refine zo ?_ | refine zk c1 ?_ | refine zk c2 ?_ | refine zc6 ?_ | (refine zs6 ?_ ?_ <;> intro hc)) | refine awp_split rfl (fun hb => ?_) (fun hb => ?_) | refine x_mret [0] ?_ ?_ | refine x_mnor [0] ?_ ?_ | refine zr ?_ | exact x_le)
        · rfl
        · exact .on (.ren rfl) .nil
/-! ### Make -/
set_option maxRecDepth 100000 in
set_option maxHeartbeats 4000000 in
theorem make1_v {L : List Suffix} : ACallsG Tryz.prog gStr 24 [.fp [SufW.sufT L] 0] (.int .i64 (SufP.checkF L : Nat)) := by
  have c1 := SufW.check_v (L := L)
  refine funG1 tb_ok Tryz.func24 rfl Tryz.ntmps24 Tryz.results24 rfl fun N => ?_
  repeat' (first | refine zt ?_ | (refine isR ?_; first | refine zo ?_ | refine zk c1 ?_) | refine awp_split rfl (fun hb => ?_) (fun hb => ?_) | refine zr ?_ | exact x_le)
  rfl
abbrev rawC (r : Raw) : List Abs.V := [strT r.name, strT r.value, .fro (r.attrs.map Attr.v)]
abbrev fromC (f : From) : List Abs.V := [strT f.host, strT f.path, .bool f.secure, .bool f.script, .bool f.abroad]
set_option maxRecDepth 100000 in
set_option maxHeartbeats 4000000 in
theorem make2_v {r : Raw} : ACalls Tryz.prog 26 [.fp (rawC r) 0] (.int .i64 (HeadP.checkF r)) := by
  have c1 := HeadR.check_v (r := r)
  refine fun1 tb_ok Tryz.func26 rfl Tryz.ntmps26 Tryz.results26 rfl fun N => ?_
  repeat' (first | refine zt ?_ | (refine isR ?_; first | refine zo ?_ | refine zk c1 ?_) | refine awp_split rfl (fun hb => ?_) (fun hb => ?_) | refine zr ?_ | exact x_le)
  rfl
set_option maxRecDepth 100000 in
set_option maxHeartbeats 4000000 in
theorem make3_v {f : From} {now : Int} : ACalls Tryz.prog 28 [.fp (fromC f) 0, .fp [.int .i64 now] 0] (.int .i64 (readyF f now)) := by
  have c1 := ready_v (f := f) (now := now)
  refine fun2 tb_ok Tryz.func28 rfl Tryz.ntmps28 Tryz.results28 rfl fun N => ?_
  repeat' (first | refine zt ?_ | (refine isR ?_; first | refine zo ?_ | refine zk c1 ?_) | refine awp_split rfl (fun hb => ?_) (fun hb => ?_) | refine zr ?_ | exact x_le)
  rfl
abbrev rowC (c : Cookie) : Blk := .els 29 13 [c.v]
theorem maker_step {r : Raw} {f : From} {now : Int} {k : Nat} {a : Attr} (h : r.attrs[k]? = some a) : (r.attrs.take (k + 1)).foldl (attrF f now) (mk0 r f now) = attrF f now ((r.attrs.take k).foldl (attrF f now) (mk0 r f now)) a := by
  obtain ⟨hk, rfl⟩ := List.getElem?_eq_some_iff.1 h
  rw [List.take_succ_eq_append_getElem hk, List.foldl_append]; rfl
theorem host_len {l : List UInt8} (h : SufP.hostOk l = true) : l.length ≤ 253 := ((SufP.host_iff _).1 h).len
set_option maxRecDepth 100000 in
set_option maxHeartbeats 4000000 in
theorem make_v {L : List Suffix} {r : Raw} {f : From} {now : Int} (hr : ∀ a ∈ r.attrs, a.value.length ≤ 140737488355328) : ACallsG Tryz.prog gBoth 9 [SufW.sufT L, r.v, f.v, .int .i64 now] (.tup [(cookF L r f now).1.v, .int .i64 (cookF L r f now).2]) := by
  have b1 := str_g (make1_v (L := L))
  have b2 := make2_v (r := r)
  have b3 := make3_v (f := f) (now := now)
  have hx : ((r.attrs.map Attr.v).length : Int) = (r.attrs.length : Int) := by simp
  unfold cookF
  by_cases h1 : SufP.checkF L = 0
  · rw [if_neg (fun h => h h1)]
    rw [h1] at b1
    by_cases h2 : HeadP.checkF r = 0
    · rw [if_neg (fun h => h h2)]
      rw [h2] at b2
      have h12 := (HeadL.check_iff.1 h2).2.2.2
      by_cases h3 : readyF f now = 0
      · rw [if_neg (fun h => h h3)]
        rw [h3] at b3
        obtain ⟨r1, _, _, _, r5, r6⟩ := ready_ok h3
        have hlen := host_len r1
        have c0 := default_v r5
        have c1 := fun m a ha => attribute_v hasBoth (f := f) (now := now) (m := m) (a := a) ha r5 r6
        have c2 := fun m => own_v (L := L) (f := f) (now := now) (m := m) h1 hlen
        have c3 := fun m => barred_v (f := f) (now := now) (m := m)
        have hst := fun k a => maker_step (r := r) (f := f) (now := now) (k := k) (a := a)
        have hend : (r.attrs.take r.attrs.length).foldl (attrF f now) (mk0 r f now) = makerF r f now := by rw [List.take_length]; rfl
        have h0 : (r.attrs.take 0).foldl (attrF f now) (mk0 r f now) = mk0 r f now := rfl
        generalize hF : (fun k => (r.attrs.take k).foldl (attrF f now) (mk0 r f now)) = F at *
        have e0 : F 0 = mk0 r f now := by rw [← hF]; rfl
        have est : ∀ k a, r.attrs[k]? = some a → F (k + 1) = attrF f now (F k) a := fun k a h => by rw [← hF]; exact hst k a h
        have een : F r.attrs.length = makerF r f now := by rw [← hF]; exact hend
        clear hst hend h0 hF
        rw [← een]
        generalize makerF r f now = mm at *
        refine funG4 tb_ok Tryz.func9 rfl Tryz.ntmps9 Tryz.results9 rfl fun N => ?_
        apply awp_share (s1 := ⟨[(4, .fp [SufW.sufT L] 0), (5, .fp (rawC r) 0), (6, .fp (fromC f) 0), (7, .fp [.int .i64 now] 0), (8, .loc 0 0 0)], [(0, some (rowC cook0))], 1, 70⟩) True
        case main =>
          intro H
          have H := H trivial
          repeat' (first | with_reducible refine rounds_on ?_ | with_reducible refine awp_rounds 4 ?_ | ((with_reducible refine awp_cutRH (id := 8) H ?_); exact x_le) | ((with_reducible refine awp_cutRS (id := 8) H ?_); exact x_le) | refine zt ?_ | (refine isR ?_; first | refine zo ?_ | refine x_callv (b1 _) ?_ | refine x_callv (b1) ?_ | refine x_callv (b2 _) ?_ | refine x_callv (b2) ?_ | refine x_callv (b3 _) ?_ | refine x_callv (b3) ?_ | refine zA ?_ | refine zL ?_ | refine zc1 ?_ | refine zc6 ?_ | refine zI ?_ | (refine zs1 ?_ ?_ <;> intro hc) | (refine zs6 ?_ ?_ <;> intro hc)) | refine awp_split rfl (fun hb => ?_) (fun hb => ?_) | refine zr ?_ | exact x_le)
        intro _
        repeat' (first | refine zt ?_ | (refine isR ?_; first | refine x_far [44] tb_ok rfl ?_ | refine zn ?_ | refine zk c0 ?_ | refine zA ?_ | refine zL ?_ | refine zc1 ?_ | refine zc6 ?_ | refine zI ?_ | (refine zs1 ?_ ?_ <;> intro hc) | (refine zs6 ?_ ?_ <;> intro hc)) | refine awp_split rfl (fun hb => ?_) (fun hb => ?_) | refine zr ?_ | exact x_le)
        refine awp_for (fun k => ⟨[(4, .fp [SufW.sufT L] 0), (8, .loc 0 0 0), (13, .loc 1 0 0), (46, .fro (r.attrs.map Attr.v)), (47, .int .i64 (r.attrs.map Attr.v).length), (48, .int .i64 (k : Int))], [(0, some (rowC cook0)), (1, some (rowM f now (F k)))], 2, 70⟩) (fun k => k ≤ r.attrs.length) r.attrs.length 0 ?_ (Nat.zero_le _) ?_
        · rw [e0]
          exact (by exact x_le)
        intro k hk
        by_cases hk2 : k < r.attrs.length
        · have e1 : (r.attrs.map Attr.v)[k]? = some (r.attrs[k]).v := by simp [hk2]
          have e2 := est k r.attrs[k] (by simp [hk2])
          have c1 := c1 (F k) r.attrs[k] (hr _ (List.getElem_mem hk2))
          rw [← e2] at c1
          generalize r.attrs[k] = a at *
          repeat' (first | refine zt ?_ | (refine isR ?_; first | refine zo ?_ | refine x_m [1] [] (c1 _) ?_ | refine x_m0 [1] [] (c1 _) ?_ | refine x_m [1] [] (c1) ?_ | refine x_m0 [1] [] (c1) ?_ | refine zA ?_ | refine zL ?_ | refine zc1 ?_ | refine zc6 ?_ | refine zI ?_ | (refine zs1 ?_ ?_ <;> intro hc) | (refine zs6 ?_ ?_ <;> intro hc)) | refine awp_split rfl (fun hb => ?_) (fun hb => ?_) | refine zr ?_ | exact x_le)
          exact ⟨by omega, hk2, (by exact x_le)⟩
        · obtain rfl : k = r.attrs.length := by omega
          unfold endF
          have c2 := c2 (F r.attrs.length)
          generalize F r.attrs.length = m at *
          have c3 := c3 (ownF L f m).2
          generalize ownF L f m = q at *
          obtain ⟨q1, q2⟩ := q
          dsimp only at *
          have c2 := str_mg c2
          by_cases h4 : q1 = 0
          · rw [if_neg (fun h => h h4)]
            subst h4
            cases hb : barF f q2 with
            | true =>
              rw [hb] at c3
              rw [if_pos rfl]
              repeat' (first | refine zt ?_ | (refine isR ?_; first | refine zo ?_ | refine x_m [1] [] (c2 _) ?_ | refine x_m0 [1] [] (c2 _) ?_ | refine x_m [1] [] (c2) ?_ | refine x_m0 [1] [] (c2) ?_ | refine x_m [1] [] (c3 _) ?_ | refine x_m0 [1] [] (c3 _) ?_ | refine x_m [1] [] (c3) ?_ | refine x_m0 [1] [] (c3) ?_ | refine zA ?_ | refine zL ?_ | refine zc1 ?_ | refine zc6 ?_ | refine zI ?_ | (refine zs1 ?_ ?_ <;> intro hc) | (refine zs6 ?_ ?_ <;> intro hc)) | refine awp_split rfl (fun hb => ?_) (fun hb => ?_) | refine zr ?_ | exact x_le)
              rfl
            | false =>
              rw [hb] at c3
              rw [if_neg (by decide)]
              repeat' (first | refine zt ?_ | (refine isR ?_; first | refine zo ?_ | refine x_m [1] [] (c2 _) ?_ | refine x_m0 [1] [] (c2 _) ?_ | refine x_m [1] [] (c2) ?_ | refine x_m0 [1] [] (c2) ?_ | refine x_m [1] [] (c3 _) ?_ | refine x_m0 [1] [] (c3 _) ?_ | refine x_m [1] [] (c3) ?_ | refine x_m0 [1] [] (c3) ?_ | refine zA ?_ | refine zL ?_ | refine zc1 ?_ | refine zc6 ?_ | refine zI ?_ | (refine zs1 ?_ ?_ <;> intro hc) | (refine zs6 ?_ ?_ <;> intro hc)) | refine awp_split rfl (fun hb => ?_) (fun hb => ?_) | refine zr ?_ | exact x_le)
              rfl
          · rw [if_pos h4]
            repeat' (first | refine zt ?_ | (refine isR ?_; first | refine zo ?_ | refine x_m [1] [] (c2 _) ?_ | refine x_m0 [1] [] (c2 _) ?_ | refine x_m [1] [] (c2) ?_ | refine x_m0 [1] [] (c2) ?_ | refine zA ?_ | refine zL ?_ | refine zc1 ?_ | refine zc6 ?_ | refine zI ?_ | (refine zs1 ?_ ?_ <;> intro hc) | (refine zs6 ?_ ?_ <;> intro hc)) | refine awp_split rfl (fun hb => ?_) (fun hb => ?_) | refine zr ?_ | exact x_le)
            rfl
      · rw [if_pos h3]
        generalize readyF f now = n at *
        refine funG4 tb_ok Tryz.func9 rfl Tryz.ntmps9 Tryz.results9 rfl fun N => ?_
        repeat' (first | with_reducible refine rounds_on ?_ | with_reducible refine awp_rounds 4 ?_ | refine zt ?_ | (refine isR ?_; first | refine zo ?_ | refine x_callv (b1 _) ?_ | refine x_callv (b1) ?_ | refine x_callv (b2 _) ?_ | refine x_callv (b2) ?_ | refine x_callv (b3 _) ?_ | refine x_callv (b3) ?_ | refine zA ?_ | refine zL ?_ | refine zc1 ?_ | refine zc6 ?_ | refine zI ?_ | (refine zs1 ?_ ?_ <;> intro hc) | (refine zs6 ?_ ?_ <;> intro hc)) | refine awp_split rfl (fun hb => ?_) (fun hb => ?_) | refine zr ?_ | exact x_le)
        rfl
    · rw [if_pos h2]
      generalize HeadP.checkF r = n at *
      refine funG4 tb_ok Tryz.func9 rfl Tryz.ntmps9 Tryz.results9 rfl fun N => ?_
      repeat' (first | with_reducible refine rounds_on ?_ | with_reducible refine awp_rounds 4 ?_ | refine zt ?_ | (refine isR ?_; first | refine zo ?_ | refine x_callv (b1 _) ?_ | refine x_callv (b1) ?_ | refine x_callv (b2 _) ?_ | refine x_callv (b2) ?_ | refine zA ?_ | refine zL ?_ | refine zc1 ?_ | refine zc6 ?_ | refine zI ?_ | (refine zs1 ?_ ?_ <;> intro hc) | (refine zs6 ?_ ?_ <;> intro hc)) | refine awp_split rfl (fun hb => ?_) (fun hb => ?_) | refine zr ?_ | exact x_le)
      rfl
  · rw [if_pos h1]
    generalize SufP.checkF L = n at *
    refine funG4 tb_ok Tryz.func9 rfl Tryz.ntmps9 Tryz.results9 rfl fun N => ?_
    repeat' (first | with_reducible refine rounds_on ?_ | with_reducible refine awp_rounds 4 ?_ | refine zt ?_ | (refine isR ?_; first | refine zo ?_ | refine x_callv (b1 _) ?_ | refine x_callv (b1) ?_ | refine zA ?_ | refine zL ?_ | refine zc1 ?_ | refine zc6 ?_ | refine zI ?_ | (refine zs1 ?_ ?_ <;> intro hc) | (refine zs6 ?_ ?_ <;> intro hc)) | refine awp_split rfl (fun hb => ?_) (fun hb => ?_) | refine zr ?_ | exact x_le)
    rfl
end Go.Proofs.YtkgdkpiacencjaaGreatDoor.CookV
end

section
namespace Go.Proofs.YtkgdkpiacencjaaGreatDoor.SufQ
open Go.RowKit Mem Abs HostP HostO HostA HostB HostC HostD HostE HostF HostG TreeW WordP WordS Globs SufP SufW SufR

/-- What the reference has found: so far, and at the one in hand. -/
def got (x : List UInt8) (b : Bool) (d : List UInt8) : List UInt8 := if x = [] then (if b then d else []) else x
theorem got_len {x d : List UInt8} {b : Bool} (hx : x = [] ∨ d.length < x.length) : got x b d = [] ∨ d.length ≤ (got x b d).length := by
  unfold got
  rcases hx with rfl | hx
  · cases b
    · exact .inl rfl
    · exact .inr (Nat.le_refl _)
  · have : x ≠ [] := fun e => by subst e; simp at hx
    rw [if_neg this]; exact .inr (by omega)
theorem got_up {E d : List UInt8} {b : Bool} : got E (b || true) d = if got E b d = [] then d else got E b d := by
  unfold got
  by_cases hE : E = []
  · cases b
    · simp [hE]
    · simp [hE]
  · simp [hE]
theorem got_same {E d : List UInt8} {b : Bool} : got E (b || false) d = got E b d := by rw [Bool.or_false]
theorem rIn_on {L : List Suffix} {i : Nat} {r : Suffix} {kd : Int} {d : List UInt8} (h : L[i]? = some r) : rIn (L.take (i + 1)) kd d = (rIn (L.take i) kd d || decide (r.kind = kd ∧ r.name = d)) := by
  obtain ⟨hi, rfl⟩ := List.getElem?_eq_some_iff.1 h
  unfold rIn
  rw [List.take_succ_eq_append_getElem hi]
  obtain ⟨a, b⟩ := L[i]
  by_cases h1 : (⟨kd, d⟩ : Suffix) ∈ L.take i
  · simp [h1]
  · simp [h1, eq_comm]
theorem bIn_on {L : List Suffix} {i : Nat} {r : Suffix} {d : List UInt8} (h : L[i]? = some r) : bIn (L.take (i + 1)) d = (bIn (L.take i) d || (decide (r.kind = 1 ∧ r.name = d) || decide (r.kind = 2 ∧ r.name = up d))) := by
  unfold bIn
  rw [rIn_on h, rIn_on h]
  cases rIn (L.take i) 1 d <;> cases rIn (L.take i) 2 (up d) <;> simp
def fndD (p : List UInt8 → Bool) (xs : List (List UInt8)) : List UInt8 := (xs.find? p).getD []
theorem fnd_on {p : List UInt8 → Bool} {d : List UInt8} {xs : List (List UInt8)} {k : Nat} (e : xs[k]? = some d) (hne : ∀ x ∈ xs, x ≠ []) : fndD p (xs.take (k + 1)) = got (fndD p (xs.take k)) (p d) d := by
  unfold fndD got
  rw [find_on e]
  cases hf : (xs.take k).find? p with
  | none =>
    simp only [Option.none_or, Option.getD_none, if_true]
    cases p d <;> rfl
  | some x =>
    have : x ≠ [] := hne x (List.mem_of_mem_take (List.mem_of_find?_eq_some hf))
    simp [this]
theorem fnd_short {h d : List UInt8} {p : List UInt8 → Bool} {k : Nat} (e : (ch h)[k]? = some d) : fndD p ((ch h).take k) = [] ∨ d.length < (fndD p ((ch h).take k)).length := by
  unfold fndD
  cases hf : ((ch h).take k).find? p with
  | none => exact .inl rfl
  | some x =>
    obtain ⟨i, h1, _, _⟩ := find_idx.1 hf
    have hik : i < k := by
      have := (List.getElem?_eq_some_iff.1 h1).1
      simp at this; omega
    rw [List.getElem?_take_of_lt hik] at h1
    exact .inr (ch_short hik h1 e)
theorem pub_ref {L : List Suffix} {h : List UInt8} (ha : address h = false) (hne : ∀ x ∈ ch h, x ≠ []) : pubF L h = if fndD (rIn L 3) (ch h) ≠ [] then up (fndD (rIn L 3) (ch h)) else if fndD (bIn L) (ch h) = [] then lastD h (ch h) else fndD (bIn L) (ch h) := by
  unfold pubF fndD lastD
  rw [ha]
  simp only [Bool.false_eq_true, if_false]
  cases hf : (ch h).find? (rIn L 3) with
  | some x =>
    have : x ≠ [] := hne x (List.mem_of_find?_eq_some hf)
    simp [this]
  | none =>
    cases hg : (ch h).find? (bIn L) with
    | none => simp
    | some x =>
      have : x ≠ [] := hne x (List.mem_of_find?_eq_some hg)
      simp [this]
set_option maxRecDepth 100000 in
set_option maxHeartbeats 4000000 in
theorem publicOf_v {L : List Suffix} {h : List UInt8} (hh : Hst h) : ACalls Tryz.prog 53 [sufT L, strT h] (strT (pubF L h)) := ACalls.lim fun hl => by
  have hlim := (fro_lim hl).1
  have hlen := hh.len
  have c1 := isAddress_v (l := h) (by omega)
  have hx : ((L.map Suffix.v).length : Int) = (L.length : Int) := by simp
  have h00 : ([] : List UInt8).length = 0 := rfl
  cases ha : address h with
  | true =>
    have e : pubF L h = [] := by unfold pubF; rw [ha]; rfl
    rw [e]
    rw [ha] at c1
    refine fun2 tb_ok Tryz.func53 rfl Tryz.ntmps53 Tryz.results53 rfl fun N => ?_
    repeat' (first | refine zt ?_ | (refine isR ?_; first | refine zo ?_ | refine zk c1 ?_ | refine zA ?_ | refine zL ?_ | refine zc1 ?_ | refine zc3 ?_ | refine zc5 ?_ | refine zc6 ?_ | refine zI ?_ | (refine zs1 ?_ ?_ <;> intro hc) | (refine zs3 ?_ ?_ <;> intro hc) | (refine zs5 ?_ ?_ <;> intro hc) | (refine zs6 ?_ ?_ <;> intro hc)) | refine awp_split rfl (fun hb => ?_) (fun hb => ?_) | refine zr ?_ | exact x_le)
    rfl
  | false =>
    rw [ha] at c1
    have c2 := upsOf_v' (l := h) (by omega)
    rw [ups_ch hh.ne ha] at c2
    have hne : ∀ x ∈ ch h, x ≠ [] := fun x hx => (hh.mem hx).ne
    have hcl := ch_len h
    have hpub := pub_ref (L := L) ha hne
    have hs3 := fun k d => fnd_short (h := h) (d := d) (p := rIn L 3) (k := k)
    have hsB := fun k d => fnd_short (h := h) (d := d) (p := bIn L) (k := k)
    have hpos : 0 < (ch h).length := by simp [ch]
    generalize pubF L h = p at *
    generalize ch h = xs at *
    have hxs : ((xs.map strT).length : Int) = (xs.length : Int) := by simp
    refine fun2 tb_ok Tryz.func53 rfl Tryz.ntmps53 Tryz.results53 rfl fun N => ?_
    repeat' (first | refine zt ?_ | (refine isR ?_; first | refine zo ?_ | refine zk c1 ?_ | refine zk c2 ?_ | refine zA ?_ | refine zL ?_ | refine zc1 ?_ | refine zc3 ?_ | refine zc5 ?_ | refine zc6 ?_ | refine zI ?_ | (refine zs1 ?_ ?_ <;> intro hc) | (refine zs3 ?_ ?_ <;> intro hc) | (refine zs5 ?_ ?_ <;> intro hc) | (refine zs6 ?_ ?_ <;> intro hc)) | refine awp_split rfl (fun hb => ?_) (fun hb => ?_) | refine zr ?_ | exact x_le)
    refine awp_for (fun k => ⟨[(0, sufT L), (1, strT h), (5, strT (fndD (rIn L 3) (xs.take k))), (6, strT (fndD (bIn L) (xs.take k))), (7, strsT xs), (8, .int .i64 (k : Int))], [], 0, 114⟩) (fun k => k ≤ xs.length) xs.length 0 (by exact x_le) (Nat.zero_le _) ?_
    intro k hk
    by_cases hk2 : k < xs.length
    · have e1 : (xs.map strT)[k]? = some (strT xs[k]) := by simp [hk2]
      have e2 : xs[k]? = some xs[k] := by simp [hk2]
      generalize xs[k] = d at e1 e2
      have hd := hne d (List.mem_of_getElem? e2)
      have hdp : 0 < d.length := List.length_pos_iff.2 hd
      have hs3 := hs3 k d e2
      have hsB := hsB k d e2
      have o3 := fnd_on (p := rIn L 3) e2 hne
      have oB := fnd_on (p := bIn L) e2 hne
      generalize fndD (rIn L 3) (xs.take k) = E at *
      generalize fndD (bIn L) (xs.take k) = B at *
      have c6 := behind_v (l := d)
      have s0 : got E (rIn (L.take 0) 3 d) d = E := by unfold got; by_cases hE : E = [] <;> simp [hE, rIn]
      have t0 : got B (bIn (L.take 0) d) d = B := by unfold got; by_cases hE : B = [] <;> simp [hE, bIn, rIn]
      repeat' (first | refine zt ?_ | (refine isR ?_; first | refine zo ?_ | refine zA ?_ | refine zL ?_ | refine zc1 ?_ | refine zc3 ?_ | refine zc5 ?_ | refine zc6 ?_ | refine zI ?_ | (refine zs1 ?_ ?_ <;> intro hc) | (refine zs3 ?_ ?_ <;> intro hc) | (refine zs5 ?_ ?_ <;> intro hc) | (refine zs6 ?_ ?_ <;> intro hc)) | refine awp_split rfl (fun hb => ?_) (fun hb => ?_) | refine zr ?_ | exact x_le)
      refine awp_for (fun i => ⟨[(0, sufT L), (1, strT h), (5, strT (got E (rIn (L.take i) 3 d) d)), (6, strT (got B (bIn (L.take i) d) d)), (7, strsT xs), (8, .int .i64 (k : Int)), (9, .int .i64 (i : Int))], [], 0, 114⟩) (fun i => i ≤ L.length) L.length 0 ?_ (Nat.zero_le _) ?_
      · rw [s0, t0]; exact (by exact x_le)
      intro i hi
      by_cases hi2 : i < L.length
      · have f1 : (L.map Suffix.v)[i]? = some (L[i]).v := by simp [hi2]
        have f2 : L[i]? = some L[i] := by simp [hi2]
        generalize L[i] = r at f1 f2
        have u3 := rIn_on (kd := 3) (d := d) f2
        have uB := bIn_on (d := d) f2
        have l3 := got_len (b := rIn (L.take i) 3 d) hs3
        have lB := got_len (b := bIn (L.take i) d) hsB
        have g3 := got_up (E := E) (d := d) (b := rIn (L.take i) 3 d)
        have gB := got_up (E := B) (d := d) (b := bIn (L.take i) d)
        have n3 := got_same (E := E) (d := d) (b := rIn (L.take i) 3 d)
        have nB := got_same (E := B) (d := d) (b := bIn (L.take i) d)
        rw [u3, uB]
        generalize got E (rIn (L.take i) 3 d) d = x at *
        generalize got B (bIn (L.take i) d) d = y at *
        have hlx : x = [] → x.length = 0 := fun e => by rw [e]; rfl
        have hly : y = [] → y.length = 0 := fun e => by rw [e]; rfl
        by_cases k3 : r.kind = 3
        · have q1 : decide (r.kind = 1 ∧ r.name = d) = false := by rw [k3]; simp
          have q2 : decide (r.kind = 2 ∧ r.name = up d) = false := by rw [k3]; simp
          rw [q1, q2, Bool.or_self, nB]
          by_cases hn : r.name = d
          · rw [show decide (r.kind = 3 ∧ r.name = d) = true by simp [k3, hn], g3]
            by_cases hx0 : x = []
            · have := hlx hx0
              rw [if_pos hx0]
              repeat' (first | refine zt ?_ | (refine isR ?_; first | refine zo ?_ | refine zA ?_ | refine zL ?_ | refine zc1 ?_ | refine zc3 ?_ | refine zc5 ?_ | refine zc6 ?_ | refine zI ?_ | (refine zs1 ?_ ?_ <;> intro hc) | (refine zs3 ?_ ?_ <;> intro hc) | (refine zs5 ?_ ?_ <;> intro hc) | (refine zs6 ?_ ?_ <;> intro hc)) | refine awp_split rfl (fun hb => ?_) (fun hb => ?_) | refine zr ?_ | exact x_le)
              exact ⟨by omega, hi2, (by exact x_le)⟩
            · have := l3.resolve_left hx0
              rw [if_neg hx0]
              repeat' (first | refine zt ?_ | (refine isR ?_; first | refine zo ?_ | refine zA ?_ | refine zL ?_ | refine zc1 ?_ | refine zc3 ?_ | refine zc5 ?_ | refine zc6 ?_ | refine zI ?_ | (refine zs1 ?_ ?_ <;> intro hc) | (refine zs3 ?_ ?_ <;> intro hc) | (refine zs5 ?_ ?_ <;> intro hc) | (refine zs6 ?_ ?_ <;> intro hc)) | refine awp_split rfl (fun hb => ?_) (fun hb => ?_) | refine zr ?_ | exact x_le)
              exact ⟨by omega, hi2, (by exact x_le)⟩
          · rw [show decide (r.kind = 3 ∧ r.name = d) = false by simp [hn], n3]
            repeat' (first | refine zt ?_ | (refine isR ?_; first | refine zo ?_ | refine zA ?_ | refine zL ?_ | refine zc1 ?_ | refine zc3 ?_ | refine zc5 ?_ | refine zc6 ?_ | refine zI ?_ | (refine zs1 ?_ ?_ <;> intro hc) | (refine zs3 ?_ ?_ <;> intro hc) | (refine zs5 ?_ ?_ <;> intro hc) | (refine zs6 ?_ ?_ <;> intro hc)) | refine awp_split rfl (fun hb => ?_) (fun hb => ?_) | refine zr ?_ | exact x_le)
            exact ⟨by omega, hi2, (by exact x_le)⟩
        · rw [show decide (r.kind = 3 ∧ r.name = d) = false by simp [k3], n3]
          by_cases k1 : r.kind = 1
          · rw [show decide (r.kind = 2 ∧ r.name = up d) = false by rw [k1]; simp, Bool.or_false]
            by_cases hn : r.name = d
            · rw [show decide (r.kind = 1 ∧ r.name = d) = true by simp [k1, hn], gB]
              by_cases hy0 : y = []
              · have := hly hy0
                rw [if_pos hy0]
                repeat' (first | refine zt ?_ | (refine isR ?_; first | refine zo ?_ | refine zA ?_ | refine zL ?_ | refine zc1 ?_ | refine zc3 ?_ | refine zc5 ?_ | refine zc6 ?_ | refine zI ?_ | (refine zs1 ?_ ?_ <;> intro hc) | (refine zs3 ?_ ?_ <;> intro hc) | (refine zs5 ?_ ?_ <;> intro hc) | (refine zs6 ?_ ?_ <;> intro hc)) | refine awp_split rfl (fun hb => ?_) (fun hb => ?_) | refine zr ?_ | exact x_le)
                exact ⟨by omega, hi2, (by exact x_le)⟩
              · have := lB.resolve_left hy0
                rw [if_neg hy0]
                repeat' (first | refine zt ?_ | (refine isR ?_; first | refine zo ?_ | refine zA ?_ | refine zL ?_ | refine zc1 ?_ | refine zc3 ?_ | refine zc5 ?_ | refine zc6 ?_ | refine zI ?_ | (refine zs1 ?_ ?_ <;> intro hc) | (refine zs3 ?_ ?_ <;> intro hc) | (refine zs5 ?_ ?_ <;> intro hc) | (refine zs6 ?_ ?_ <;> intro hc)) | refine awp_split rfl (fun hb => ?_) (fun hb => ?_) | refine zr ?_ | exact x_le)
                exact ⟨by omega, hi2, (by exact x_le)⟩
            · rw [show decide (r.kind = 1 ∧ r.name = d) = false by simp [hn], nB]
              repeat' (first | refine zt ?_ | (refine isR ?_; first | refine zo ?_ | refine zA ?_ | refine zL ?_ | refine zc1 ?_ | refine zc3 ?_ | refine zc5 ?_ | refine zc6 ?_ | refine zI ?_ | (refine zs1 ?_ ?_ <;> intro hc) | (refine zs3 ?_ ?_ <;> intro hc) | (refine zs5 ?_ ?_ <;> intro hc) | (refine zs6 ?_ ?_ <;> intro hc)) | refine awp_split rfl (fun hb => ?_) (fun hb => ?_) | refine zr ?_ | exact x_le)
              exact ⟨by omega, hi2, (by exact x_le)⟩
          · rw [show decide (r.kind = 1 ∧ r.name = d) = false by simp [k1], Bool.false_or]
            by_cases k2 : r.kind = 2
            · by_cases hn : r.name = up d
              · rw [show decide (r.kind = 2 ∧ r.name = up d) = true by simp [k2, hn], gB]
                by_cases hy0 : y = []
                · have := hly hy0
                  rw [if_pos hy0]
                  repeat' (first | refine zt ?_ | (refine isR ?_; first | refine zo ?_ | refine zk c6 ?_ | refine zA ?_ | refine zL ?_ | refine zc1 ?_ | refine zc3 ?_ | refine zc5 ?_ | refine zc6 ?_ | refine zI ?_ | (refine zs1 ?_ ?_ <;> intro hc) | (refine zs3 ?_ ?_ <;> intro hc) | (refine zs5 ?_ ?_ <;> intro hc) | (refine zs6 ?_ ?_ <;> intro hc)) | refine awp_split rfl (fun hb => ?_) (fun hb => ?_) | refine zr ?_ | exact x_le)
                  exact ⟨by omega, hi2, (by exact x_le)⟩
                · have := lB.resolve_left hy0
                  rw [if_neg hy0]
                  repeat' (first | refine zt ?_ | (refine isR ?_; first | refine zo ?_ | refine zk c6 ?_ | refine zA ?_ | refine zL ?_ | refine zc1 ?_ | refine zc3 ?_ | refine zc5 ?_ | refine zc6 ?_ | refine zI ?_ | (refine zs1 ?_ ?_ <;> intro hc) | (refine zs3 ?_ ?_ <;> intro hc) | (refine zs5 ?_ ?_ <;> intro hc) | (refine zs6 ?_ ?_ <;> intro hc)) | refine awp_split rfl (fun hb => ?_) (fun hb => ?_) | refine zr ?_ | exact x_le)
                  exact ⟨by omega, hi2, (by exact x_le)⟩
              · rw [show decide (r.kind = 2 ∧ r.name = up d) = false by simp [hn], nB]
                repeat' (first | refine zt ?_ | (refine isR ?_; first | refine zo ?_ | refine zk c6 ?_ | refine zA ?_ | refine zL ?_ | refine zc1 ?_ | refine zc3 ?_ | refine zc5 ?_ | refine zc6 ?_ | refine zI ?_ | (refine zs1 ?_ ?_ <;> intro hc) | (refine zs3 ?_ ?_ <;> intro hc) | (refine zs5 ?_ ?_ <;> intro hc) | (refine zs6 ?_ ?_ <;> intro hc)) | refine awp_split rfl (fun hb => ?_) (fun hb => ?_) | refine zr ?_ | exact x_le)
                exact ⟨by omega, hi2, (by exact x_le)⟩
            · rw [show decide (r.kind = 2 ∧ r.name = up d) = false by simp [k2], nB]
              repeat' (first | refine zt ?_ | (refine isR ?_; first | refine zo ?_ | refine zA ?_ | refine zL ?_ | refine zc1 ?_ | refine zc3 ?_ | refine zc5 ?_ | refine zc6 ?_ | refine zI ?_ | (refine zs1 ?_ ?_ <;> intro hc) | (refine zs3 ?_ ?_ <;> intro hc) | (refine zs5 ?_ ?_ <;> intro hc) | (refine zs6 ?_ ?_ <;> intro hc)) | refine awp_split rfl (fun hb => ?_) (fun hb => ?_) | refine zr ?_ | exact x_le)
              exact ⟨by omega, hi2, (by exact x_le)⟩
      · have ek : L.take i = L := List.take_of_length_le (by omega)
        rw [ek]
        rw [← o3, ← oB]
        repeat' (first | refine zt ?_ | (refine isR ?_; first | refine zo ?_ | refine zA ?_ | refine zL ?_ | refine zc1 ?_ | refine zc3 ?_ | refine zc5 ?_ | refine zc6 ?_ | refine zI ?_ | (refine zs1 ?_ ?_ <;> intro hc) | (refine zs3 ?_ ?_ <;> intro hc) | (refine zs5 ?_ ?_ <;> intro hc) | (refine zs6 ?_ ?_ <;> intro hc)) | refine awp_split rfl (fun hb => ?_) (fun hb => ?_) | refine zr ?_ | exact x_le)
        exact ⟨by omega, hk2, (by exact x_le)⟩
    · have ek : xs.take k = xs := List.take_of_length_le (by omega)
      rw [ek]
      have e9 : (xs.map strT)[(((xs.map strT).length : Int) - 1).toNat]? = some (strT (lastD h xs)) := by
        rw [show (((xs.map strT).length : Int) - 1).toNat = xs.length - 1 by omega]
        unfold lastD
        rw [List.getElem?_map, List.getLast?_eq_getElem?, List.getElem?_eq_getElem (by omega)]
        rfl
      generalize fndD (rIn L 3) xs = E at *
      generalize fndD (bIn L) xs = B at *
      generalize lastD h xs = la at *
      have c6 := behind_v (l := E)
      by_cases hE : E = []
      · rw [if_neg (by simp [hE])] at hpub
        by_cases hB : B = []
        · rw [if_pos hB] at hpub
          repeat' (first | refine zt ?_ | (refine isR ?_; first | refine zo ?_ | refine zk c6 ?_ | refine zA ?_ | refine zL ?_ | refine zc1 ?_ | refine zc3 ?_ | refine zc5 ?_ | refine zc6 ?_ | refine zI ?_ | (refine zs1 ?_ ?_ <;> intro hc) | (refine zs3 ?_ ?_ <;> intro hc) | (refine zs5 ?_ ?_ <;> intro hc) | (refine zs6 ?_ ?_ <;> intro hc)) | refine awp_split rfl (fun hb => ?_) (fun hb => ?_) | refine zr ?_ | exact x_le)
          rw [hpub]; rfl
        · rw [if_neg hB] at hpub
          repeat' (first | refine zt ?_ | (refine isR ?_; first | refine zo ?_ | refine zk c6 ?_ | refine zA ?_ | refine zL ?_ | refine zc1 ?_ | refine zc3 ?_ | refine zc5 ?_ | refine zc6 ?_ | refine zI ?_ | (refine zs1 ?_ ?_ <;> intro hc) | (refine zs3 ?_ ?_ <;> intro hc) | (refine zs5 ?_ ?_ <;> intro hc) | (refine zs6 ?_ ?_ <;> intro hc)) | refine awp_split rfl (fun hb => ?_) (fun hb => ?_) | refine zr ?_ | exact x_le)
          rw [hpub]; rfl
      · rw [if_pos hE] at hpub
        repeat' (first | refine zt ?_ | (refine isR ?_; first | refine zo ?_ | refine zk c6 ?_ | refine zA ?_ | refine zL ?_ | refine zc1 ?_ | refine zc3 ?_ | refine zc5 ?_ | refine zc6 ?_ | refine zI ?_ | (refine zs1 ?_ ?_ <;> intro hc) | (refine zs3 ?_ ?_ <;> intro hc) | (refine zs5 ?_ ?_ <;> intro hc) | (refine zs6 ?_ ?_ <;> intro hc)) | refine awp_split rfl (fun hb => ?_) (fun hb => ?_) | refine zr ?_ | exact x_le)
        rw [hpub]; rfl
end Go.Proofs.YtkgdkpiacencjaaGreatDoor.SufQ
end

section
namespace Go.Proofs.YtkgdkpiacencjaaGreatDoor.SufT
open Go.RowKit Mem Abs HostP HostO HostA HostB HostC HostD HostE HostF HostG TreeW WordP WordS Globs SufP SufW SufR SufQ

theorem no_bad {L : List Suffix} {h : List UInt8} (hc : ¬ checkF L = 0) : pubNo L h = ([], checkF L) := by unfold pubNo; rw [if_pos hc]
theorem no_host {L : List Suffix} {h : List UInt8} (hc : checkF L = 0) (hh : hostOk h = false) : pubNo L h = ([], 1) := by unfold pubNo; rw [if_neg (by simp [hc]), hh]; rfl
theorem no_ok {L : List Suffix} {h : List UInt8} (hc : checkF L = 0) (hh : hostOk h = true) : pubNo L h = (pubF L h, 0) := by unfold pubNo; rw [if_neg (by simp [hc]), hh]; rfl
set_option maxRecDepth 100000 in
set_option maxHeartbeats 4000000 in
theorem publicNo_v {L : List Suffix} {h : List UInt8} : ACalls Tryz.prog 16 [sufT L, strT h] (pairT (pubNo L h)) := by
  have c1 := suffixCheck_v (L := L)
  have c2 := isHost_v (l := h)
  by_cases hc : checkF L = 0
  · cases hh : hostOk h with
    | false =>
      rw [no_host hc hh]
      rw [hc] at c1; rw [hh] at c2
      refine fun2 tb_ok Tryz.func16 rfl Tryz.ntmps16 Tryz.results16 rfl fun N => ?_
      repeat' (first | refine zt ?_ | (refine isR ?_; first | refine zo ?_ | refine zk c1 ?_ | refine zk c2 ?_ | refine zc5 ?_ | refine zc6 ?_ | (refine zs5 ?_ ?_ <;> intro hc) | (refine zs6 ?_ ?_ <;> intro hc)) | refine awp_split rfl (fun hb => ?_) (fun hb => ?_) | refine zr ?_ | exact x_le)
      rfl
    | true =>
      rw [no_ok hc hh]
      have c3 := publicOf_v (L := L) ((host_iff h).1 hh)
      rw [hc] at c1; rw [hh] at c2
      generalize pubF L h = p at *
      refine fun2 tb_ok Tryz.func16 rfl Tryz.ntmps16 Tryz.results16 rfl fun N => ?_
      repeat' (first | refine zt ?_ | (refine isR ?_; first | refine zo ?_ | refine zk c1 ?_ | refine zk c2 ?_ | refine zk c3 ?_ | refine zc5 ?_ | refine zc6 ?_ | (refine zs5 ?_ ?_ <;> intro hc) | (refine zs6 ?_ ?_ <;> intro hc)) | refine awp_split rfl (fun hb => ?_) (fun hb => ?_) | refine zr ?_ | exact x_le)
      rfl
  · rw [no_bad hc]
    generalize checkF L = n at *
    refine fun2 tb_ok Tryz.func16 rfl Tryz.ntmps16 Tryz.results16 rfl fun N => ?_
    repeat' (first | refine zt ?_ | (refine isR ?_; first | refine zo ?_ | refine zk c1 ?_ | refine zc5 ?_ | refine zc6 ?_ | (refine zs5 ?_ ?_ <;> intro hc) | (refine zs6 ?_ ?_ <;> intro hc)) | refine awp_split rfl (fun hb => ?_) (fun hb => ?_) | refine zr ?_ | exact x_le)
    rfl
theorem own_ok {L : List Suffix} {h : List UInt8} (hc : checkF L = 0) (hh : hostOk h = true) (ha : address h = false) (hp : pubF L h ≠ h) : ownF L h = (owner L h, 0) := by
  unfold ownF; rw [no_ok hc hh, ha]; simp [hp]
end Go.Proofs.YtkgdkpiacencjaaGreatDoor.SufT
end

section
namespace Go.Proofs.YtkgdkpiacencjaaGreatDoor.CookL
open Go.RowKit Mem Abs TreeW WordP WordS HostP HostO HostA HostB HostC HostD PathT Globs StampB StampG ClockP ClockW ClockO ClockV CookP CookQ CookW CookV Both

def ekC : Ty := (nth tb 29).get rfl
theorem eq_self (a : Cookie) : eqK ekC a.v a.v = true := by
  have h : eqK ekC a.v a.v = (eqS (strT a.name) (strT a.name) && (eqS (strT a.value) (strT a.value) && (eqS (strT a.domain) (strT a.domain) && (eqS (strT a.path) (strT a.path) && (eqS (.bool a.hostOnly) (.bool a.hostOnly) && (eqS (.bool a.secure) (.bool a.secure) && (eqS (.bool a.httpOnly) (.bool a.httpOnly) && (eqS (.bool a.lasting) (.bool a.lasting) && (eqS (.int .i64 a.site) (.int .i64 a.site) && (eqS (.int .i64 a.expiry) (.int .i64 a.expiry) && (eqS (.int .i64 a.created) (.int .i64 a.created) && (eqS (.int .i64 a.used) (.int .i64 a.used) && (eqS (.int .i64 a.no) (.int .i64 a.no) && true))))))))))))) := rfl
  have hb : ∀ b : Bool, eqS (.bool b) (.bool b) = true := fun b => by cases b <;> rfl
  have hi : ∀ n : Int, eqS (.int .i64 n) (.int .i64 n) = true := fun n => by show (n == n) = true; simp
  rw [h]
  simp only [eqS_str, hb, hi, decide_true, Bool.and_self]
def sufsC : List Suffix := [⟨1, ([99, 111, 109] : List UInt8)⟩, ⟨1, ([99, 111, 46, 117, 107] : List UInt8)⟩, ⟨2, ([99, 107] : List UInt8)⟩, ⟨3, ([119, 119, 119, 46, 99, 107] : List UInt8)⟩]
def shopF : From := ⟨([119, 119, 119, 46, 115, 104, 111, 112, 46, 99, 111, 109] : List UInt8), ([47, 99, 97, 114, 116, 47, 97, 100, 100] : List UInt8), true, false, false⟩
set_option maxRecDepth 100000 in
set_option maxHeartbeats 4000000 in
theorem suffixes_v : ACalls Tryz.prog 43 [] (SufW.sufT sufsC) := by
  refine fun0 tb_ok Tryz.func43 rfl Tryz.ntmps43 Tryz.results43 fun N => ?_
  repeat' (first | refine zt ?_ | (refine isR ?_; first | refine zo ?_ | refine x_bs tb_ok ?_) | refine awp_split rfl (fun hb => ?_) (fun hb => ?_) | refine zr ?_ | exact x_le)
  rfl
set_option maxRecDepth 100000 in
set_option maxHeartbeats 4000000 in
theorem shop_v : ACalls Tryz.prog 44 [] shopF.v := by
  refine fun0 tb_ok Tryz.func44 rfl Tryz.ntmps44 Tryz.results44 fun N => ?_
  repeat' (first | refine zt ?_ | (refine isR ?_; first | refine zo ?_) | refine awp_split rfl (fun hb => ?_) (fun hb => ?_) | refine zr ?_ | exact x_le)
  rfl
set_option maxRecDepth 100000 in
set_option maxHeartbeats 4000000 in
theorem attrs_v {xs : List Abs.V} : ACalls Tryz.prog 19 [.fro xs] (.fro xs) := by
  refine fun1 tb_ok Tryz.func19 rfl Tryz.ntmps19 Tryz.results19 rfl fun N => ?_
  repeat' (first | refine zt ?_ | (refine isR ?_; first | refine zo ?_) | refine awp_split rfl (fun hb => ?_) (fun hb => ?_) | refine zr ?_ | exact x_le)
  rfl
def raw1 : Raw := ⟨([105, 100] : List UInt8), ([55] : List UInt8), [⟨([100, 111, 109, 97, 105, 110] : List UInt8), ([46, 83, 104, 111, 112, 46, 99, 111, 109] : List UInt8)⟩, ⟨([109, 97, 120, 45, 97, 103, 101] : List UInt8), ([54, 48] : List UInt8)⟩, ⟨([115, 101, 99, 117, 114, 101] : List UInt8), []⟩]⟩
def raw2 : Raw := ⟨([105, 100] : List UInt8), [], [⟨([100, 111, 109, 97, 105, 110] : List UInt8), ([99, 111, 109] : List UInt8)⟩]⟩
def raw3 : Raw := ⟨([95, 95, 72, 111, 115, 116, 45, 105, 100] : List UInt8), [], [⟨([115, 101, 99, 117, 114, 101] : List UInt8), []⟩]⟩
def ck1 : Cookie := ⟨([105, 100] : List UInt8), ([55] : List UInt8), ([115, 104, 111, 112, 46, 99, 111, 109] : List UInt8), ([47, 99, 97, 114, 116] : List UInt8), false, true, false, true, 0, 1060, 1000, 1000, 0⟩
theorem b1 : cookF sufsC raw1 shopF 1000 = (ck1, 0) := by kernel_rfl
theorem b2 : cookF sufsC raw2 shopF 1000 = (cook0, 8) := by kernel_rfl
theorem b3 : cookF sufsC raw3 shopF 1000 = (cook0, 8) := by kernel_rfl
theorem b4 : ageF ([45, 57, 57, 57, 57, 57, 57, 57, 57, 57, 57, 57, 57, 57, 57] : List UInt8) = (-1000000000000, true) := by kernel_rfl
theorem b5 : ageF ([49, 120] : List UInt8) = (0, false) := by kernel_rfl
theorem b6 : readyF ⟨([97] : List UInt8), ([120] : List UInt8), false, false, false⟩ 0 = 1 := by kernel_rfl
theorem small {r : Raw} (h : r.attrs.all (fun a => decide (a.value.length ≤ 100)) = true) : ∀ a ∈ r.attrs, a.value.length ≤ 140737488355328 := fun a ha => by
  have := of_decide_eq_true (List.all_eq_true.1 h a ha)
  omega
set_option maxRecDepth 100000 in
set_option maxHeartbeats 4000000 in
theorem begun_v : ACallsG Tryz.prog gBoth 13 [] (.bool true) := by
  have c1 := make_v (L := sufsC) (r := raw1) (f := shopF) (now := 1000) (small rfl)
  have c2 := make_v (L := sufsC) (r := raw2) (f := shopF) (now := 1000) (small rfl)
  have c3 := make_v (L := sufsC) (r := raw3) (f := shopF) (now := 1000) (small rfl)
  have c4 := age_v (s := ([45, 57, 57, 57, 57, 57, 57, 57, 57, 57, 57, 57, 57, 57, 57] : List UInt8)) (by decide)
  have c5 := age_v (s := ([49, 120] : List UInt8)) (by decide)
  have c6 := ready_v (f := ⟨([97] : List UInt8), ([120] : List UInt8), false, false, false⟩) (now := 0)
  have he := eq_self ck1
  rw [b1] at c1; rw [b2] at c2; rw [b3] at c3; rw [b4] at c4; rw [b5] at c5; rw [b6] at c6
  dsimp only at c1 c2 c3 c4 c5
  refine funG0 tb_ok Tryz.func13 rfl Tryz.ntmps13 Tryz.results13 fun N => ?_
  repeat' (first | refine zt ?_ | (refine isR ?_; first | refine zo ?_ | refine zk suffixes_v ?_ | refine zk shop_v ?_ | refine zk attrs_v ?_ | refine zk c1 ?_ | refine zk c2 ?_ | refine zk c3 ?_ | refine zk c4 ?_ | refine zk c5 ?_ | refine zk c6 ?_ | refine x_bs tb_ok ?_ | refine zc5 ?_ | (refine zs5 ?_ ?_ <;> intro hc)) | refine awp_split rfl (fun hb => ?_) (fun hb => ?_) | refine zr ?_ | exact x_le)
  rfl
set_option maxRecDepth 100000 in
set_option maxHeartbeats 4000000 in
theorem domain_law {L : List Suffix} {r : Raw} {f : From} {now : Int} (hr : ∀ a ∈ r.attrs, a.value.length ≤ 140737488355328) : ACallsG Tryz.prog gBoth 4 [SufW.sufT L, r.v, f.v, .int .i64 now] (.bool true) := by
  have c1 := make_v (L := L) (r := r) (f := f) (now := now) hr
  by_cases h0 : (cookF L r f now).2 = 0
  · have hd := domain_plain h0
    obtain ⟨k1, _, k3, _⟩ := cook_ok h0
    have hh := host_len (ready_ok k3).1
    rw [h0] at c1
    generalize (cookF L r f now).1 = c at *
    rcases hd with ⟨d1, d2⟩ | ⟨d1, d2, d3, d4⟩
    · obtain ⟨e1, e2, e3, e4, e5, e6, e7, e8, e9, e10, e11, e12, e13⟩ := c
      dsimp only at d1 d2
      subst d1
      have c1 : ACallsG Tryz.prog gBoth 9 [SufW.sufT L, r.v, f.v, .int .i64 now] (.tup [.agg [strT e1, strT e2, strT e3, strT e4, .bool true, .bool e6, .bool e7, .bool e8, .int .i64 e9, .int .i64 e10, .int .i64 e11, .int .i64 e12, .int .i64 e13], .int .i64 0]) := c1
      refine funG4 tb_ok Tryz.func4 rfl Tryz.ntmps4 Tryz.results4 rfl fun N => ?_
      repeat' (first | refine zt ?_ | (refine isR ?_; first | refine zo ?_ | refine zk c1 ?_ | refine zk begun_v ?_ | refine zc5 ?_ | refine zc6 ?_ | (refine zs5 ?_ ?_ <;> intro hc) | (refine zs6 ?_ ?_ <;> intro hc)) | refine awp_split rfl (fun hb => ?_) (fun hb => ?_) | refine zr ?_ | exact x_le)
      rfl
    · have c2 := SufT.publicNo_v (L := L) (h := c.domain)
      have c3 := isMatch_v (l := f.host) (m := c.domain) (by omega) (by have := host_len d3; omega)
      rw [d2] at c3
      rw [SufT.no_ok k1 d3] at c2
      dsimp only [pairT] at c2
      generalize SufP.pubF L c.domain = p at *
      obtain ⟨e1, e2, e3, e4, e5, e6, e7, e8, e9, e10, e11, e12, e13⟩ := c
      dsimp only at d1 d2 d4 c2 c3
      subst d1
      have c1 : ACallsG Tryz.prog gBoth 9 [SufW.sufT L, r.v, f.v, .int .i64 now] (.tup [.agg [strT e1, strT e2, strT e3, strT e4, .bool false, .bool e6, .bool e7, .bool e8, .int .i64 e9, .int .i64 e10, .int .i64 e11, .int .i64 e12, .int .i64 e13], .int .i64 0]) := c1
      refine funG4 tb_ok Tryz.func4 rfl Tryz.ntmps4 Tryz.results4 rfl fun N => ?_
      repeat' (first | refine zt ?_ | (refine isR ?_; first | refine zo ?_ | refine zk c1 ?_ | refine zk begun_v ?_ | refine zk c2 ?_ | refine zk c3 ?_ | refine zc5 ?_ | refine zc6 ?_ | (refine zs5 ?_ ?_ <;> intro hc) | (refine zs6 ?_ ?_ <;> intro hc)) | refine awp_split rfl (fun hb => ?_) (fun hb => ?_) | refine zr ?_ | exact x_le)
      rfl
  · rw [cook_err h0] at c1
    have he := eq_self cook0
    generalize (cookF L r f now).2 = n at *
    refine funG4 tb_ok Tryz.func4 rfl Tryz.ntmps4 Tryz.results4 rfl fun N => ?_
    repeat' (first | refine zt ?_ | (refine isR ?_; first | refine zo ?_ | refine zk c1 ?_ | refine zk begun_v ?_ | refine zc5 ?_ | refine zc6 ?_ | (refine zs5 ?_ ?_ <;> intro hc) | (refine zs6 ?_ ?_ <;> intro hc)) | refine awp_split rfl (fun hb => ?_) (fun hb => ?_) | refine zr ?_ | exact x_le)
    rfl
theorem pre_take {n m : List UInt8} (h : pre n m = true) : m.length ≤ n.length ∧ n.take m.length = m := ⟨pre_len h, of_decide_eq_true h⟩
set_option maxRecDepth 100000 in
set_option maxHeartbeats 4000000 in
theorem bars_law {L : List Suffix} {r : Raw} {f : From} {now : Int} (hr : ∀ a ∈ r.attrs, a.value.length ≤ 140737488355328) : ACallsG Tryz.prog gBoth 5 [SufW.sufT L, r.v, f.v, .int .i64 now] (.bool true) := by
  have c1 := make_v (L := L) (r := r) (f := f) (now := now) hr
  by_cases h0 : (cookF L r f now).2 = 0
  · obtain ⟨b1, b2, b3, b4⟩ := bars_plain h0
    rw [h0] at c1
    generalize (cookF L r f now).1 = c at *
    have c2 := foldOf_v (l := c.name)
    have hex := two_pre (n := fold c.name)
    have t9 := pre_take (n := fold c.name) (m := pSec)
    have t7 := pre_take (n := fold c.name) (m := pHost)
    have u9 : pre (fold c.name) pSec = false → ¬ (fold c.name).take 9 = pSec := fun h => of_decide_eq_false h
    have u7 : pre (fold c.name) pHost = false → ¬ (fold c.name).take 7 = pHost := fun h => of_decide_eq_false h
    generalize fold c.name = n at *
    generalize pre n pSec = x9 at *
    generalize pre n pHost = x7 at *
    obtain ⟨e1, e2, e3, e4, e5, e6, e7, e8, e9, e10, e11, e12, e13⟩ := c
    obtain ⟨f1, f2, f3, f4, f5⟩ := f
    dsimp only at b1 b2 b3 b4 c2
    have c1 : ACallsG Tryz.prog gBoth 9 [SufW.sufT L, r.v, .agg [strT f1, strT f2, .bool f3, .bool f4, .bool f5], .int .i64 now] (.tup [.agg [strT e1, strT e2, strT e3, strT e4, .bool e5, .bool e6, .bool e7, .bool e8, .int .i64 e9, .int .i64 e10, .int .i64 e11, .int .i64 e12, .int .i64 e13], .int .i64 0]) := c1
    show ACallsG _ _ _ [SufW.sufT L, r.v, .agg [strT f1, strT f2, .bool f3, .bool f4, .bool f5], .int .i64 now] _
    cases x9
    · have w9 : ¬ n.take ((9 : Int)).toNat = ([95, 95, 115, 101, 99, 117, 114, 101, 45] : List UInt8) := u9 rfl
      cases x7
      · have w7 : ¬ n.take ((7 : Int)).toNat = ([95, 95, 104, 111, 115, 116, 45] : List UInt8) := u7 rfl
        clear b3 b4 t9 t7 u9 u7 hex
        cases e6 <;> cases f3 <;> cases e7 <;> cases f4
        all_goals first
          | exact absurd (b1 rfl) (by decide)
          | exact absurd (b2 rfl) (by decide)
          | skip
        all_goals
          refine funG4 tb_ok Tryz.func5 rfl Tryz.ntmps5 Tryz.results5 rfl fun N => ?_
          repeat' (first | refine zt ?_ | (refine isR ?_; first | refine zo ?_ | refine zk c1 ?_ | refine zk begun_v ?_ | refine zk c2 ?_ | refine zL ?_ | refine zc4 ?_ | refine zc5 ?_ | refine zc6 ?_ | refine zS ?_ | (refine zs4 ?_ ?_ <;> intro hc) | (refine zs5 ?_ ?_ <;> intro hc) | (refine zs6 ?_ ?_ <;> intro hc)) | refine awp_split rfl (fun hb => ?_) (fun hb => ?_) | refine zr ?_ | exact x_le)
          all_goals rfl
      · obtain ⟨v1, v2⟩ := t7 rfl
        have v1 : 7 ≤ n.length := v1
        have w7 : n.take ((7 : Int)).toNat = ([95, 95, 104, 111, 115, 116, 45] : List UInt8) := v2
        obtain ⟨y1, y2, y3, y4⟩ := b4 rfl
        clear b3 b4 t9 t7 u9 u7 hex
        subst y1 y2
        cases f3 <;> cases e7 <;> cases f4
        all_goals first
          | exact absurd (b1 rfl) (by decide)
          | exact absurd (b2 rfl) (by decide)
          | skip
        all_goals
          refine funG4 tb_ok Tryz.func5 rfl Tryz.ntmps5 Tryz.results5 rfl fun N => ?_
          repeat' (first | refine zt ?_ | (refine isR ?_; first | refine zo ?_ | refine zk c1 ?_ | refine zk begun_v ?_ | refine zk c2 ?_ | refine zL ?_ | refine zc4 ?_ | refine zc5 ?_ | refine zc6 ?_ | refine zS ?_ | (refine zs4 ?_ ?_ <;> intro hc) | (refine zs5 ?_ ?_ <;> intro hc) | (refine zs6 ?_ ?_ <;> intro hc)) | refine awp_split rfl (fun hb => ?_) (fun hb => ?_) | refine zr ?_ | exact x_le)
          all_goals rfl
    · obtain ⟨v1, v2⟩ := t9 rfl
      have v1 : 9 ≤ n.length := v1
      have w9 : n.take ((9 : Int)).toNat = ([95, 95, 115, 101, 99, 117, 114, 101, 45] : List UInt8) := v2
      have w7 : ¬ n.take ((7 : Int)).toNat = ([95, 95, 104, 111, 115, 116, 45] : List UInt8) := u7 (hex rfl)
      have y1 := b3 rfl
      clear b3 b4 t9 t7 u9 u7 hex
      subst y1
      cases f3 <;> cases e7 <;> cases f4
      all_goals first
        | exact absurd (b1 rfl) (by decide)
        | exact absurd (b2 rfl) (by decide)
        | skip
      all_goals
        refine funG4 tb_ok Tryz.func5 rfl Tryz.ntmps5 Tryz.results5 rfl fun N => ?_
        repeat' (first | refine zt ?_ | (refine isR ?_; first | refine zo ?_ | refine zk c1 ?_ | refine zk begun_v ?_ | refine zk c2 ?_ | refine zL ?_ | refine zc4 ?_ | refine zc5 ?_ | refine zc6 ?_ | refine zS ?_ | (refine zs4 ?_ ?_ <;> intro hc) | (refine zs5 ?_ ?_ <;> intro hc) | (refine zs6 ?_ ?_ <;> intro hc)) | refine awp_split rfl (fun hb => ?_) (fun hb => ?_) | refine zr ?_ | exact x_le)
        all_goals rfl
  · generalize cookF L r f now = q at *
    refine funG4 tb_ok Tryz.func5 rfl Tryz.ntmps5 Tryz.results5 rfl fun N => ?_
    repeat' (first | refine zt ?_ | (refine isR ?_; first | refine zo ?_ | refine zk c1 ?_ | refine zk begun_v ?_ | refine zL ?_ | refine zc4 ?_ | refine zc5 ?_ | refine zc6 ?_ | refine zS ?_ | (refine zs4 ?_ ?_ <;> intro hc) | (refine zs5 ?_ ?_ <;> intro hc) | (refine zs6 ?_ ?_ <;> intro hc)) | refine awp_split rfl (fun hb => ?_) (fun hb => ?_) | refine zr ?_ | exact x_le)
    rfl
abbrev atV (n v : List UInt8) : Abs.V := .agg [strT n, strT v]
set_option maxRecDepth 100000 in
set_option maxHeartbeats 4000000 in
theorem expiry_law {L : List Suffix} {r : Raw} {f : From} {now : Int} {a b : List UInt8} (ha : a.length ≤ 140737488355328) (hb : b.length ≤ 140737488355328) : ACallsG Tryz.prog gBoth 6 [SufW.sufT L, r.v, f.v, .int .i64 now, strT a, strT b] (.bool true) := by
  have s2 : ∀ x ∈ ([⟨nAge, a⟩, ⟨nExp, b⟩] : List Attr), x.value.length ≤ 140737488355328 := fun x hx => by
    simp only [List.mem_cons, List.not_mem_nil, or_false] at hx
    rcases hx with rfl | rfl
    · exact ha
    · exact hb
  have s3 : ∀ x ∈ ([⟨nExp, b⟩, ⟨nAge, a⟩] : List Attr), x.value.length ≤ 140737488355328 := fun x hx => by
    simp only [List.mem_cons, List.not_mem_nil, or_false] at hx
    rcases hx with rfl | rfl
    · exact hb
    · exact ha
  have s1 : ∀ x ∈ ([⟨nAge, a⟩] : List Attr), x.value.length ≤ 140737488355328 := fun x hx => by
    simp only [List.mem_cons, List.not_mem_nil, or_false] at hx
    rcases hx with rfl
    exact ha
  have c1 := make_v (L := L) (r := { r with attrs := [⟨nAge, a⟩, ⟨nExp, b⟩] }) (f := f) (now := now) s2
  have c2 := make_v (L := L) (r := { r with attrs := [⟨nExp, b⟩, ⟨nAge, a⟩] }) (f := f) (now := now) s3
  have c3 := make_v (L := L) (r := { r with attrs := [⟨nAge, a⟩] }) (f := f) (now := now) s1
  have c4 := age_v ha
  have hsw := cook_swap (L := L) (r := r) (f := f) (now := now) (a := ⟨nAge, a⟩) (b := ⟨nExp, b⟩) (show nAge ≠ nExp by decide)
  have hag := cook_age (L := L) (r := r) (f := f) (now := now) (a := a) (b := b)
  rw [← hsw] at c2
  clear hsw
  generalize cookF L { r with attrs := [⟨nAge, a⟩, ⟨nExp, b⟩] } f now = q at *
  generalize cookF L { r with attrs := [⟨nAge, a⟩] } f now = z at *
  generalize ageF a = g at *
  obtain ⟨r1, r2, r3⟩ := r
  obtain ⟨q1, q2⟩ := q
  obtain ⟨z1, z2⟩ := z
  obtain ⟨g1, g2⟩ := g
  have he := eq_self q1
  have he2 : (!eqK ekC q1.v q1.v) = false := by rw [he]; rfl
  have c1 : ACallsG Tryz.prog gBoth 9 [SufW.sufT L, .agg [strT r1, strT r2, .fro [atV ([109, 97, 120, 45, 97, 103, 101] : List UInt8) a, atV ([101, 120, 112, 105, 114, 101, 115] : List UInt8) b]], f.v, .int .i64 now] (.tup [q1.v, .int .i64 q2]) := c1
  have c2 : ACallsG Tryz.prog gBoth 9 [SufW.sufT L, .agg [strT r1, strT r2, .fro [atV ([101, 120, 112, 105, 114, 101, 115] : List UInt8) b, atV ([109, 97, 120, 45, 97, 103, 101] : List UInt8) a]], f.v, .int .i64 now] (.tup [q1.v, .int .i64 q2]) := c2
  have c3 : ACallsG Tryz.prog gBoth 9 [SufW.sufT L, .agg [strT r1, strT r2, .fro [atV ([109, 97, 120, 45, 97, 103, 101] : List UInt8) a]], f.v, .int .i64 now] (.tup [z1.v, .int .i64 z2]) := c3
  show ACallsG _ _ _ [SufW.sufT L, .agg [strT r1, strT r2, .fro (r3.map Attr.v)], f.v, .int .i64 now, strT a, strT b] _
  dsimp only at *
  by_cases h0 : q2 = 0
  · obtain ⟨k1, k2, k3, k4⟩ := hag h0
    subst h0 k1
    cases g2
    · obtain ⟨e1, e2, e3, e4, e5, e6, e7, e8, e9, e10, e11, e12, e13⟩ := q1
      dsimp only at k3
      cases e8
      · have k3 : e10 = 253402300799 := by simpa using k3
        refine funG6 tb_ok Tryz.func6 rfl Tryz.ntmps6 Tryz.results6 rfl fun N => ?_
        repeat' (first | refine zt ?_ | (refine isR ?_; first | refine zo ?_ | refine zk begun_v ?_ | refine zk attrs_v ?_ | refine zk c1 ?_ | refine zk c2 ?_ | refine zk c3 ?_ | refine zk c4 ?_ | refine x_bs tb_ok ?_ | refine zc5 ?_ | refine zc6 ?_ | (refine zs5 ?_ ?_ <;> intro hc) | (refine zs6 ?_ ?_ <;> intro hc)) | refine awp_split rfl (fun hb => ?_) (fun hb => ?_) | refine zr ?_ | exact x_le)
        rfl
      · skip
        refine funG6 tb_ok Tryz.func6 rfl Tryz.ntmps6 Tryz.results6 rfl fun N => ?_
        repeat' (first | refine zt ?_ | (refine isR ?_; first | refine zo ?_ | refine zk begun_v ?_ | refine zk attrs_v ?_ | refine zk c1 ?_ | refine zk c2 ?_ | refine zk c3 ?_ | refine zk c4 ?_ | refine x_bs tb_ok ?_ | refine zc5 ?_ | refine zc6 ?_ | (refine zs5 ?_ ?_ <;> intro hc) | (refine zs6 ?_ ?_ <;> intro hc)) | refine awp_split rfl (fun hb => ?_) (fun hb => ?_) | refine zr ?_ | exact x_le)
        rfl
    · cases k2 rfl
      have k4 := k4 rfl
      obtain ⟨e1, e2, e3, e4, e5, e6, e7, e8, e9, e10, e11, e12, e13⟩ := q1
      dsimp only at k4
      subst k4
      refine funG6 tb_ok Tryz.func6 rfl Tryz.ntmps6 Tryz.results6 rfl fun N => ?_
      repeat' (first | refine zt ?_ | (refine isR ?_; first | refine zo ?_ | refine zk begun_v ?_ | refine zk attrs_v ?_ | refine zk c1 ?_ | refine zk c2 ?_ | refine zk c3 ?_ | refine zk c4 ?_ | refine x_bs tb_ok ?_ | refine zc5 ?_ | refine zc6 ?_ | (refine zs5 ?_ ?_ <;> intro hc) | (refine zs6 ?_ ?_ <;> intro hc)) | refine awp_split rfl (fun hb => ?_) (fun hb => ?_) | refine zr ?_ | exact x_le)
      rfl
  · skip
    refine funG6 tb_ok Tryz.func6 rfl Tryz.ntmps6 Tryz.results6 rfl fun N => ?_
    repeat' (first | refine zt ?_ | (refine isR ?_; first | refine zo ?_ | refine zk begun_v ?_ | refine zk attrs_v ?_ | refine zk c1 ?_ | refine zk c2 ?_ | refine x_bs tb_ok ?_ | refine zc5 ?_ | refine zc6 ?_ | (refine zs5 ?_ ?_ <;> intro hc) | (refine zs6 ?_ ?_ <;> intro hc)) | refine awp_split rfl (fun hb => ?_) (fun hb => ?_) | refine zr ?_ | exact x_le)
    rfl
end Go.Proofs.YtkgdkpiacencjaaGreatDoor.CookL
end

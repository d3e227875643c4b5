/- What strings.Builder's methods do, over named trees. -/
import Derived.Test.YtbacakgjhohedaaDoorWk
import Derived.Test.YtbacakgjhohedaaDoorAbsU
import Derived.Test.YtbacakgjhohedaaDoorTy
namespace Go.Proofs.YtbacakgjhohedaaDoor.Bld
open Go.RowKit Mem Abs

theorem noEscape (y : Value) (w : World) : (callFunc 53 #[y]).run Tryd.prog w = .ok (.value y) w := by
  rw [run_callFunc_extern Tryd.func53 (by kernel_rfl) (by kernel_rfl) (by kernel_rfl) (e := Extern.AbiNoEscape.same) (by kernel_rfl)]
  rfl
/-- A builder that nothing was written into; and one that holds the bytes of row 1. -/
abbrev fresh : Blk := .els 47 2 [.agg [.nilp, .nils]]
abbrev used (n m : Nat) (p : List UInt8) : Blk := .els 47 2 [.agg [.loc n 0 0, .own m 0 p.length]]
abbrev bytesB (p : List UInt8) : Blk := .els 5 1 (p.map byteT)
set_option maxRecDepth 100000 in
set_option maxHeartbeats 4000000 in
theorem check0 : MCalls Tryd.prog 38 [.loc 0 0 0] [fresh] (.tup []) [some (.els 47 2 [.agg [.loc 0 0 0, .nils]])] := by
  refine mfun tb_ok Tryd.func38 rfl Tryd.ntmps38 Tryd.results38 rfl rfl rfl rfl fun N pl => ?_
  repeat' (first | refine zt ?_ | (refine isR ?_; first | refine zo ?_ | refine x_eqlPN ?_ | refine x_same noEscape ?_ | refine x_toU tb_ok ?_ | refine x_fromU tb_ok ?_ | refine x_neqPS ?_ | refine zc5 ?_ | refine zc6 ?_ | refine zB ?_ | (refine zs5 ?_ ?_ <;> intro hc) | (refine zs6 ?_ ?_ <;> intro hc)) | refine awp_split rfl (fun hb => ?_) (fun hb => ?_) | refine x_mret [0] ?_ ?_ | refine x_mnor [0] ?_ ?_ | refine zr ?_ | exact x_le)
  · rfl
  · exact .on (.ren rfl) .nil
set_option maxRecDepth 100000 in
set_option maxHeartbeats 4000000 in
theorem check1 {p : List UInt8} : MCalls Tryd.prog 38 [.loc 0 0 0] [used 0 1 p, bytesB p] (.tup []) [some (used 0 1 p), some (bytesB p)] := by
  refine mfun tb_ok Tryd.func38 rfl Tryd.ntmps38 Tryd.results38 rfl rfl rfl rfl fun N pl => ?_
  repeat' (first | refine zt ?_ | (refine isR ?_; first | refine zo ?_ | refine x_eqlPL ?_ | refine x_same noEscape ?_ | refine x_toU tb_ok ?_ | refine x_fromU tb_ok ?_ | refine x_neqPS ?_ | refine zc5 ?_ | refine zc6 ?_ | refine zB ?_ | (refine zs5 ?_ ?_ <;> intro hc) | (refine zs6 ?_ ?_ <;> intro hc)) | refine awp_split rfl (fun hb => ?_) (fun hb => ?_) | refine x_mret [0, 1] ?_ ?_ | refine x_mnor [0, 1] ?_ ?_ | refine zr ?_ | exact x_le)
  · rfl
  · exact .on (.ren rfl) (.on (.same (nl_map fun _ => rfl)) .nil)
set_option maxRecDepth 100000 in
set_option maxHeartbeats 4000000 in
theorem write0 {q : List UInt8} (hq : q.length ≤ 140737488355328) : MCalls Tryd.prog 20 [.loc 0 0 0, strT q] [fresh] (.tup [.int .i64 q.length, .nili]) [some (used 0 1 q), some (bytesB q)] := by
  refine mfun tb_ok Tryd.func20 rfl Tryd.ntmps20 Tryd.results20 rfl rfl rfl rfl fun N pl => ?_
  repeat' (first | refine zt ?_ | (refine isR ?_; first | refine zo ?_ | refine x_m [0] [] (check0 _) ?_ | refine x_m0 [0] [] (check0 _) ?_ | refine x_m [0] [] (check0) ?_ | refine x_m0 [0] [] (check0) ?_ | refine x_appS0 tb_ok ?_ | refine zL ?_) | refine awp_split rfl (fun hb => ?_) (fun hb => ?_) | refine x_mret [0, 1] ?_ ?_ | refine x_mnor [0, 1] ?_ ?_ | refine zr ?_ | exact x_le)
  · rfl
  · exact .on (.ren rfl) (.on (.same (nl_map fun _ => rfl)) .nil)
set_option maxRecDepth 100000 in
set_option maxHeartbeats 4000000 in
theorem write1 {p q : List UInt8} (hq : p.length + q.length ≤ 140737488355328) : MCalls Tryd.prog 20 [.loc 0 0 0, strT q] [used 0 1 p, bytesB p] (.tup [.int .i64 q.length, .nili]) [some (used 0 2 (p ++ q)), none, some (bytesB (p ++ q))] := by
  refine mfun tb_ok Tryd.func20 rfl Tryd.ntmps20 Tryd.results20 rfl rfl rfl rfl fun N pl => ?_
  repeat' (first | refine zt ?_ | (refine isR ?_; first | refine zo ?_ | refine x_m [0,1] [] (check1 _) ?_ | refine x_m0 [0,1] [] (check1 _) ?_ | refine x_m [0,1] [] (check1) ?_ | refine x_m0 [0,1] [] (check1) ?_ | refine x_appS tb_ok ?_ | refine zL ?_) | refine awp_split rfl (fun hb => ?_) (fun hb => ?_) | refine x_mret [0, 1, 2] ?_ ?_ | refine x_mnor [0, 1, 2] ?_ ?_ | refine zr ?_ | exact x_le)
  · rfl
  · exact .on (.ren rfl) (.no (.on (.same (nl_map fun _ => rfl)) .nil))
set_option maxRecDepth 100000 in
set_option maxHeartbeats 4000000 in
theorem string0 : MCalls Tryd.prog 22 [.loc 0 0 0] [fresh] (strT []) [some fresh] := by
  refine mfun tb_ok Tryd.func22 rfl Tryd.ntmps22 Tryd.results22 rfl rfl rfl rfl fun N pl => ?_
  repeat' (first | refine zt ?_ | (refine isR ?_; first | refine zo ?_ | refine x_sdata0 ?_ | refine x_ustr0 ?_ | refine zL ?_) | refine awp_split rfl (fun hb => ?_) (fun hb => ?_) | refine x_mret [0] ?_ ?_ | refine x_mnor [0] ?_ ?_ | refine zr ?_ | exact x_le)
  · rfl
  · exact .on (.ren rfl) .nil
set_option maxRecDepth 100000 in
set_option maxHeartbeats 4000000 in
theorem string1 {p : List UInt8} (hp : p ≠ []) : MCalls Tryd.prog 22 [.loc 0 0 0] [used 0 1 p, bytesB p] (strT p) [some (used 0 1 p), none] := by
  refine mfun tb_ok Tryd.func22 rfl Tryd.ntmps22 Tryd.results22 rfl rfl rfl rfl fun N pl => ?_
  repeat' (first | refine zt ?_ | (refine isR ?_; first | refine zo ?_ | refine x_sdata ?_ | refine x_ustr ?_ | refine zL ?_) | refine awp_split rfl (fun hb => ?_) (fun hb => ?_) | refine x_mret [0, 1] ?_ ?_ | refine x_mnor [0, 1] ?_ ?_ | refine zr ?_ | exact x_le)
  · rfl
  · exact .on (.ren rfl) (.no .nil)
set_option maxRecDepth 100000 in
set_option maxHeartbeats 4000000 in
theorem len1 {p : List UInt8} : MCalls Tryd.prog 21 [.loc 0 0 0] [used 0 1 p, bytesB p] (.int .i64 p.length) [some (used 0 1 p), some (bytesB p)] := by
  refine mfun tb_ok Tryd.func21 rfl Tryd.ntmps21 Tryd.results21 rfl rfl rfl rfl fun N pl => ?_
  repeat' (first | refine zt ?_ | (refine isR ?_; first | refine zo ?_ | refine zL ?_) | refine awp_split rfl (fun hb => ?_) (fun hb => ?_) | refine x_mret [0, 1] ?_ ?_ | refine x_mnor [0, 1] ?_ ?_ | refine zr ?_ | exact x_le)
  · rfl
  · exact .on (.ren rfl) (.on (.same (nl_map fun _ => rfl)) .nil)
end Go.Proofs.YtbacakgjhohedaaDoor.Bld

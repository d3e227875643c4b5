/- Texts of the proof, joined: GovB. -/
import Derived.Test.YtlfdjpgghiemfaaGreatDoorH33
set_option maxHeartbeats 4000000
set_option maxRecDepth 100000
namespace Go.Proofs.YtlfdjpgghiemfaaGreatDoor
namespace EW
open Go.RowKit Mem Abs eO cu gV dV Rdy Scan fI gF iG iP iQ kY nu oZ uR yh yO Aq RjP Aw Cy nA mZ
open lG (gD gu)
variable {U2:List Int} {g2:Int} {K:List ai} {nx2 g t2 t:Int} {P2 P:Nat→Bool} {Γ:iI} {T:List UInt8} {L2:List ai} {e k:Int} {S2:List aG} {f:From} {nx:Int} {s:List UInt8} {p:Pol} {U:List Int} {now:Int} {p2:Pol} {L:List ai} {S:List aG}
abbrev evC (r:Abs.V) (k now:Int) (s:List UInt8) (f:From):List Abs.V:=[.int .i64 k,.int .i64 now,au s,au f.host,au f.path,.bool f.secure,.bool f.script,.bool f.abroad,r,.int .i64 0,.int .i64 0,.int .i64 0,.int .i64 0,.int .i64 0,.int .i64 0,.int .i64 0,.int .i64 0,.int .i64 0,.int .i64 0,.int .i64 0,.int .i64 0]
abbrev evV (k now:Int) (s:List UInt8) (f:From):Abs.V:=.agg (evC (.fro []) k now s f)
abbrev evN (k now:Int) (s:List UInt8) (f:From):Abs.V:=.agg (evC .nils k now s f)
abbrev f0:From:=⟨[],[],false,false,false⟩
theorem TU:aj Tryz.prog 74 [evV 1 now s f] (evN 1 now s f):=by
 refine aU af Tryz.func74 rfl Tryz.ntmps74 Tryz.results74 rfl fun N=>?_
 repeat' (first|refine zt ?_|(refine isR ?_;first|refine zo ?_|refine zc5 ?_)|refine zr ?_|exact ah)
 all_goals rfl
theorem Vh:aj Tryz.prog 74 [evV 2 now [] f] (evN 2 now [] f):=by
 refine aU af Tryz.func74 rfl Tryz.ntmps74 Tryz.results74 rfl fun N=>?_
 repeat' (first|refine zt ?_|(refine isR ?_;first|refine zo ?_|refine zc5 ?_)|refine zr ?_|exact ah)
 all_goals rfl
theorem KL:aj Tryz.prog 74 [evV 5 now [] f0] (evN 5 now [] f0):=by
 refine aU af Tryz.func74 rfl Tryz.ntmps74 Tryz.results74 rfl fun N=>?_
 repeat' (first|refine zt ?_|(refine isR ?_;first|refine zo ?_|refine zc5 ?_)|refine zr ?_|exact ah)
 all_goals rfl
theorem Vi:aj Tryz.prog 104 [.fro [],.fro []] (.bool true):=by
 have hz:([]:List Abs.V).length=0:=rfl
 refine aW af Tryz.func104 rfl Tryz.ntmps104 Tryz.results104 rfl fun N=>?_
 repeat' (first|with_reducible refine aP ?_|with_reducible refine aO 2 ?_|refine zt ?_|(refine isR ?_;first|refine zo ?_|refine zX ?_)|refine zr ?_|exact ah)
 all_goals rfl
def ekF:Ty:=(nth tb 37).get rfl
theorem Yx (f:From):eqF f.v.cells f.v.cells ekF.flds=true:=by
 have h:eqF f.v.cells f.v.cells ekF.flds=(eqS (au f.host) (au f.host)&&(eqS (au f.path) (au f.path)&&(eqS (.bool f.secure) (.bool f.secure)&&(eqS (.bool f.script) (.bool f.script)&&(eqS (.bool f.abroad) (.bool f.abroad)&&true))))):=rfl
 rw [h]
 simp [jA,Ei]
theorem N8:aj Tryz.prog 73 [evV k now s f,evV k now s f] (.bool true):=by
 have c1:=Vi
 have hq:=Yx f
 refine aW af Tryz.func73 rfl Tryz.ntmps73 Tryz.results73 rfl fun N=>?_
 repeat' (first|refine zt ?_|(refine isR ?_;first|refine zo ?_|refine vU af ?_|refine zk c1 ?_|refine zc5 ?_)|refine zr ?_|exact ah)
 all_goals first|rfl|(exfalso;omega)|(exfalso;simp_all;done)
theorem vF:aj Tryz.prog 72 [au s] (.bool (decide (400<s.length))):=by
 by_cases h:400<s.length
 ·rw [decide_eq_true h]
  refine aU af Tryz.func72 rfl Tryz.ntmps72 Tryz.results72 rfl fun N=>?_
  repeat' (first|refine zt ?_|(refine isR ?_;first|refine zo ?_|refine zX ?_)|refine zr ?_|exact ah)
  all_goals first|rfl|(exfalso;omega)
 ·rw [decide_eq_false h]
  refine aU af Tryz.func72 rfl Tryz.ntmps72 Tryz.results72 rfl fun N=>?_
  repeat' (first|refine zt ?_|(refine isR ?_;first|refine zo ?_|refine zX ?_)|refine zr ?_|exact ah)
  all_goals first|rfl|(exfalso;omega)
abbrev fnL:Abs.V:=.fn (.func 76) [] [.fp [.fn (.func 72) [] []] 0]
theorem abx:aj Tryz.prog 105 [.fro [],fnL] (.int .i64 (-1)):=by
 have hz:([]:List Abs.V).length=0:=rfl
 refine aW af Tryz.func105 rfl Tryz.ntmps105 Tryz.results105 rfl fun N=>?_
 repeat' (first|with_reducible refine aP ?_|with_reducible refine aO 2 ?_|refine zt ?_|(refine isR ?_;first|refine zo ?_|refine zX ?_)|refine zr ?_|exact ah)
 all_goals rfl
theorem abF:aj Tryz.prog 75 [.fro [],fnL] (.bool false):=by
 have c1:=abx
 refine aW af Tryz.func75 rfl Tryz.ntmps75 Tryz.results75 rfl fun N=>?_
 repeat' (first|refine zt ?_|(refine isR ?_;first|refine zo ?_|refine zk c1 ?_|refine zc4 ?_)|refine zr ?_|exact ah)
 all_goals rfl
def Gt (s:List UInt8) (f:From):Nat:=if 400<s.length∨400<f.host.length∨400<f.path.length then 2 else 0
theorem yg (cn:aj Tryz.prog 74 [evV k now s f] (evN k now s f)) (h1:1≤k) (h2:k≤5):aj Tryz.prog 43 [evV k now s f] (.int .i64 ((Gt s f:Nat):Int)):=by
 have cs:aj Tryz.prog 73 [evV k now s f,evN k now s f] (.bool true):=N8.nf rfl
 have l1:=vF (s:=s)
 have l2:=vF (s:=f.host)
 have l3:=vF (s:=f.path)
 have c1:=abF
 unfold Gt
 by_cases e1:400<s.length
 ·rw [if_pos (.inl e1)]
  rw [decide_eq_true e1] at l1
  refine aU af Tryz.func43 rfl Tryz.ntmps43 Tryz.results43 rfl fun N=>?_
  repeat' (first|refine zt ?_|(refine isR ?_;first|refine zo ?_|refine zk cn ?_|refine zk cs ?_|refine ak (l1 _) ?_|refine ak (l1) ?_|refine zX ?_)|refine zr ?_|exact ah)
  all_goals first|rfl|(exfalso;omega)
 rw [decide_eq_false e1] at l1
 by_cases e2:400<f.host.length
 ·rw [if_pos (.inr (.inl e2))]
  rw [decide_eq_true e2] at l2
  refine aU af Tryz.func43 rfl Tryz.ntmps43 Tryz.results43 rfl fun N=>?_
  repeat' (first|refine zt ?_|(refine isR ?_;first|refine zo ?_|refine zk cn ?_|refine zk cs ?_|refine ak (l1 _) ?_|refine ak (l1) ?_|refine ak (l2 _) ?_|refine ak (l2) ?_|refine zX ?_)|refine zr ?_|exact ah)
  all_goals first|rfl|(exfalso;omega)
 rw [decide_eq_false e2] at l2
 by_cases e3:400<f.path.length
 ·rw [if_pos (.inr (.inr e3))]
  rw [decide_eq_true e3] at l3
  refine aU af Tryz.func43 rfl Tryz.ntmps43 Tryz.results43 rfl fun N=>?_
  repeat' (first|refine zt ?_|(refine isR ?_;first|refine zo ?_|refine zk cn ?_|refine zk cs ?_|refine ak (l1 _) ?_|refine ak (l1) ?_|refine ak (l2 _) ?_|refine ak (l2) ?_|refine ak (l3 _) ?_|refine ak (l3) ?_|refine zX ?_)|refine zr ?_|exact ah)
  all_goals first|rfl|(exfalso;omega)
 rw [decide_eq_false e3] at l3
 rw [if_neg (fun h=>h.elim e1 fun h=>h.elim e2 e3)]
 have hz:([]:List Abs.V).length=0:=rfl
 refine aU af Tryz.func43 rfl Tryz.ntmps43 Tryz.results43 rfl fun N=>?_
 repeat' (first|refine zt ?_|(refine isR ?_;first|refine zo ?_|refine zk cn ?_|refine zk cs ?_|refine ak (l1 _) ?_|refine ak (l1) ?_|refine ak (l2 _) ?_|refine ak (l2) ?_|refine ak (l3 _) ?_|refine ak (l3) ?_|refine uj [0] (c1 _) ?_|refine uj [0] (c1) ?_|refine zX ?_)|refine zr ?_|exact ah)
 all_goals first|rfl|(exfalso;omega)
abbrev TG:Nat:=93
abbrev rG (S:List aG) (L:List ai) (nx:Int) (p:Pol) (g:Int) (P:Nat→Bool) (U:List Int) (t:Int) (s:List UInt8):Blk:=.els TG 30 [.agg (stC S L nx p g P U t++[au s])]
theorem Pg {Z:List ai} (cg:av Tryz.prog Γ 110 [dL L nx,f.v,.int .i64 now] (.tup [dL L2 nx,.fro (Z.map ai.v),.int .i64 0])) (cw:aj Tryz.prog 111 [.fro (Z.map ai.v)] (au T)):
  aR Tryz.prog Γ 83 [.loc 0 0 0,evV 2 now [] f] [rG S L nx p g P U t s] (.int .i64 0) [some (rG S L2 nx p g P U t T)]:=by
 refine bL af Tryz.func83 rfl Tryz.ntmps83 Tryz.results83 rfl rfl rfl rfl fun N pl=>?_
 repeat' (first|refine zt ?_|(refine isR ?_;first|refine zo ?_|refine zk cg ?_|refine zk cw ?_|refine zc5 ?_)|refine aA [0] ?_ ?_|exact ah)
 all_goals first|rfl|exact .on (.ren rfl) .nil
theorem YZ (cg:av Tryz.prog Γ 110 [dL L nx,f.v,.int .i64 now] (.tup [noJ,.nils,.int .i64 e])) (he:e≠0):
  aR Tryz.prog Γ 83 [.loc 0 0 0,evV 2 now [] f] [rG S L nx p g P U t s] (.int .i64 e) [some (rG S L nx p g P U t s)]:=by
 refine bL af Tryz.func83 rfl Tryz.ntmps83 Tryz.results83 rfl rfl rfl rfl fun N pl=>?_
 repeat' (first|refine zt ?_|(refine isR ?_;first|refine zo ?_|refine zk cg ?_|refine zc5 ?_)|refine aA [0] ?_ ?_|exact ah)
 all_goals first|rfl|exact .on (.ren rfl) .nil|(exfalso;omega)
theorem V9 (cp:av Tryz.prog Γ 39 [stV S L nx p g P U now] (dL K nx)) (ca:aR Tryz.prog Γ 83 [.loc 0 0 0,evV 2 now [] f] [rG S K nx p g P U now s] (.int .i64 e) [some (rG S L2 nx p g P U now T)]):
  aR Tryz.prog Γ 45 [.loc 0 0 0,evV 2 now [] f] [rG S L nx p g P U t s] (.int .i64 e) [some (rG S L2 nx p g P U now T)]:=by
 refine bL af Tryz.func45 rfl Tryz.ntmps45 Tryz.results45 rfl rfl rfl rfl fun N pl=>?_
 repeat' (first|refine zt ?_|(refine isR ?_;first|refine zo ?_|refine zk cp ?_|refine eZ [0] [] (ca _) ?_|refine eZ [0] [] (ca) ?_|refine zI ?_)|refine aA [0] ?_ ?_|exact ah)
 all_goals first|rfl|exact .on (.ren rfl) .nil
theorem aaR:aj Tryz.prog 81 [evV 5 now [] f0] (.int .i64 0):=by
 refine aU af Tryz.func81 rfl Tryz.ntmps81 Tryz.results81 rfl fun N=>?_
 repeat' (first|refine zt ?_|(refine isR ?_;refine zo ?_)|refine zr ?_|exact ah)
 all_goals rfl
theorem aan (cp:av Tryz.prog Γ 39 [stV S L nx p g P U now] (dL K nx)):
  aR Tryz.prog Γ 45 [.loc 0 0 0,evV 5 now [] f0] [rG S L nx p g P U t s] (.int .i64 0) [some (rG S K nx p g P U now s)]:=by
 have c1:=aaR (now:=now)
 refine bL af Tryz.func45 rfl Tryz.ntmps45 Tryz.results45 rfl rfl rfl rfl fun N pl=>?_
 repeat' (first|refine zt ?_|(refine isR ?_;first|refine zo ?_|refine zk cp ?_|refine ak (c1 _) ?_|refine ak (c1) ?_|refine zI ?_)|refine aA [0] ?_ ?_|exact ah)
 all_goals first|rfl|exact .on (.ren rfl) .nil
abbrev st0:Abs.V:=.agg [.nils,.nils,.int .i64 0,.nils,.int .i64 0,.int .i64 0,.int .i64 0,.int .i64 0,.int .i64 0,.int .i64 0,.int .i64 0,.int .i64 0,.int .i64 0,.int .i64 0,.int .i64 0,.int .i64 0,.int .i64 0,.bool false,.bool false,.bool false,.bool false,.bool false,.bool false,.bool false,.bool false,.bool false,.bool false,.nils,.int .i64 0]
theorem EB (ce:aj Tryz.prog 43 [evV k now s f] (.int .i64 0)) (hn:isJ now=true) (ht:t≤now) (co:aj Tryz.prog 44 [stV S L nx p g P U t] (stV S L nx p g P U t)) (cd:aR Tryz.prog Γ 45 [.loc 0 0 0,evV k now s f] [rG S L nx p g P U t []] (.int .i64 0) [some (rG S2 L2 nx2 p2 g2 P2 U2 t2 T)]):
  av Tryz.prog Γ 16 [stV S L nx p g P U t,evV k now s f] (.tup [stV S2 L2 nx2 p2 g2 P2 U2 t2,au T,.int .i64 0]):=by
 have c1:=qP (n:=now)
 rw [hn] at c1
 refine gQ af Tryz.func16 rfl Tryz.ntmps16 Tryz.results16 rfl fun N=>?_
 repeat' (first|refine zt ?_|(refine isR ?_;first|refine dQ [28] af rfl ?_|refine zn ?_|refine zk ce ?_|refine zk c1 ?_|refine zk co ?_|refine x_m [1] [] (cd _) ?_|refine x_m [1] [] (cd) ?_|refine zX ?_)|refine zr ?_|exact ah)
 all_goals first|rfl|(exfalso;omega)
theorem RG (ce:aj Tryz.prog 43 [evV k now s f] (.int .i64 0)) (hn:isJ now=true) (ht:now<t) (co:aj Tryz.prog 44 [stV S L nx p g P U t] (stV S L nx p g P U t)):
  aj Tryz.prog 16 [stV S L nx p g P U t,evV k now s f] (.tup [st0,au [],.int .i64 4]):=by
 have c1:=qP (n:=now)
 rw [hn] at c1
 refine aW af Tryz.func16 rfl Tryz.ntmps16 Tryz.results16 rfl fun N=>?_
 repeat' (first|refine zt ?_|(refine isR ?_;first|refine dQ [28] af rfl ?_|refine zn ?_|refine zk ce ?_|refine zk c1 ?_|refine zk co ?_|refine zX ?_)|refine zr ?_|exact ah)
 all_goals first|rfl|(exfalso;omega)
theorem JL (c1:av Tryz.prog Γ 12 [stV S L nx p g P U t] (.int .i64 0)) (c2:av Tryz.prog Γ 16 [stV S L nx p g P U t,evV k now s f] (.tup [stV S2 L2 nx2 p2 g2 P2 U2 t2,au T,.int .i64 0])):
  av Tryz.prog Γ 6 [stV S L nx p g P U t,evV k now s f] (.tup [stV S2 L2 nx2 p2 g2 P2 U2 t2,au T,.int .i64 0]):=by
 refine gQ af Tryz.func6 rfl Tryz.ntmps6 Tryz.results6 rfl fun N=>?_
 repeat' (first|refine zt ?_|(refine isR ?_;first|refine zo ?_|refine zk c1 ?_|refine zk c2 ?_|refine zc6 ?_)|refine zr ?_|exact ah)
 all_goals first|rfl|(exfalso;omega)
theorem Qo (c1:av Tryz.prog Γ 12 [stV S L nx p g P U t] (.int .i64 0)) (c2:av Tryz.prog Γ 16 [stV S L nx p g P U t,evV k now s f] (.tup [st0,au [],.int .i64 e])):
  av Tryz.prog Γ 6 [stV S L nx p g P U t,evV k now s f] (.tup [st0,au [],.int .i64 e]):=by
 refine gQ af Tryz.func6 rfl Tryz.ntmps6 Tryz.results6 rfl fun N=>?_
 repeat' (first|refine zt ?_|(refine isR ?_;first|refine zo ?_|refine zk c1 ?_|refine zk c2 ?_|refine zc6 ?_)|refine zr ?_|exact ah)
 all_goals first|rfl|(exfalso;omega)
end EW
end Go.Proofs.YtlfdjpgghiemfaaGreatDoor

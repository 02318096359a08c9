/-
  Texts joined: TpUse. No law is proved here.
-/
import Derived.Test.YtnmpfmapncicmaaGreatB1
namespace Go.Proofs.YtnmpfmapncicmaaGreat
set_option linter.all false
set_option maxRecDepth 100000
set_option maxHeartbeats 40000000
open Go.RowKit
def useA (f:Int):Value:=.agg #[.bool (decide (2≤f)),.bool (decide (2≤f∧f≤5)),.bool (decide (f=2)),.int .i32 (loF f),.int .i32 (hiF f)]
def useV (f:Int):Value:=.tuple #[useA f,.bool (decide (f≠0))]
theorem Dd {op:Int} (h:A2 op≠0):(1≤op∧op≤13)∨(16≤op∧op≤24)∨(32≤op∧op≤36)∨(40≤op∧op≤45)∨(48≤op∧op≤49)∨(56≤op∧op≤64):=by
 by_cases hh:(1≤op∧op≤13)∨(16≤op∧op≤24)∨(32≤op∧op≤36)∨(40≤op∧op≤45)∨(48≤op∧op≤49)∨(56≤op∧op≤64)
 · exact hh
 · refine absurd ?_ h
   unfold A2
   rw[if_neg (by omega),if_neg (by omega),if_neg (by omega),if_neg (by omega),if_neg (by omega),if_neg (by omega),if_neg (by omega),if_neg (by omega),if_neg (by omega)]
theorem use_no (op:Int) (w:World) (h:A2 op=0):Calls Tryz.prog 162 #[.int .i64 op] w (Ret w (useV 0)):=by
 have N:∀ k:Int,A2 k≠0→(op == k)=false:=fun k hk=>by
  rw[beq_eq_false_iff_ne];rintro rfl;exact hk h
 have n1:=N 1 (by decide)
 have n2:=N 2 (by decide)
 have n3:=N 3 (by decide)
 have n4:=N 4 (by decide)
 have n5:=N 5 (by decide)
 have n6:=N 6 (by decide)
 have n7:=N 7 (by decide)
 have n8:=N 8 (by decide)
 have n9:=N 9 (by decide)
 have n10:=N 10 (by decide)
 have n11:=N 11 (by decide)
 have n12:=N 12 (by decide)
 have n13:=N 13 (by decide)
 have n16:=N 16 (by decide)
 have n17:=N 17 (by decide)
 have n18:=N 18 (by decide)
 have n19:=N 19 (by decide)
 have n20:=N 20 (by decide)
 have n21:=N 21 (by decide)
 have n22:=N 22 (by decide)
 have n23:=N 23 (by decide)
 have n24:=N 24 (by decide)
 have n32:=N 32 (by decide)
 have n33:=N 33 (by decide)
 have n34:=N 34 (by decide)
 have n35:=N 35 (by decide)
 have n36:=N 36 (by decide)
 have n40:=N 40 (by decide)
 have n41:=N 41 (by decide)
 have n42:=N 42 (by decide)
 have n43:=N 43 (by decide)
 have n44:=N 44 (by decide)
 have n45:=N 45 (by decide)
 have n48:=N 48 (by decide)
 have n49:=N 49 (by decide)
 have n56:=N 56 (by decide)
 have n57:=N 57 (by decide)
 have n58:=N 58 (by decide)
 have n59:=N 59 (by decide)
 have n60:=N 60 (by decide)
 have n61:=N 61 (by decide)
 have n62:=N 62 (by decide)
 have n63:=N 63 (by decide)
 have n64:=N 64 (by decide)
 clear N h
 go_in
 go_wp2
 exact bodyPost_ret (v:=useV 0) (by simp [results,Tryz.results162,go_sem];rfl) rfl (Ret.mk bel)
theorem use_yes (op:Int) (w:World) (h:A2 op≠0):Calls Tryz.prog 162 #[.int .i64 op] w (Ret w (useV (A2 op))):=by
 have hv:=Dd h
 clear h
 obtain rfl|rfl|rfl|rfl|rfl|rfl|rfl|rfl|rfl|rfl|rfl|rfl|rfl|rfl|rfl|rfl|rfl|rfl|rfl|rfl|rfl|rfl|rfl|rfl|rfl|rfl|rfl|rfl|rfl|rfl|rfl|rfl|rfl|rfl|rfl|rfl|rfl|rfl|rfl|rfl|rfl|rfl|rfl|rfl:op=1∨op=2∨op=3∨op=4∨op=5∨op=6∨op=7∨op=8∨op=9∨op=10∨op=11∨op=12∨op=13∨op=16∨op=17∨op=18∨op=19∨op=20∨op=21∨op=22∨op=23∨op=24∨op=32∨op=33∨op=34∨op=35∨op=36∨op=40∨op=41∨op=42∨op=43∨op=44∨op=45∨op=48∨op=49∨op=56∨op=57∨op=58∨op=59∨op=60∨op=61∨op=62∨op=63∨op=64:=by omega
 all_goals
  clear hv
  go_in
  go_wp2
  exact bodyPost_ret (v:=useV (A2 _)) (by simp [results,Tryz.results162,go_sem];rfl) rfl (Ret.mk bel)
theorem use_any (op:Int) (w:World):Calls Tryz.prog 162 #[.int .i64 op] w (Ret w (useV (A2 op))):=by
 by_cases h:A2 op=0
 · rw[h];exact use_no op w h
 · exact use_yes op w h
end Go.Proofs.YtnmpfmapncicmaaGreat

/- What the listed tables' condition gives: the tables, as the view that tells all of memory tells them. By a program (row.py) of this session. -/
import Derived.Test.YtgnblhmejecgfaaGreatDoorRows
import Derived.Test.YtgnblhmejecgfaaGreatDoorQ
import Derived.Test.YtgnblhmejecgfaaGreatDoorG
import Derived.Test.YtgnblhmejecgfaaGreatDoorR
import Derived.KernelRfl
set_option linter.all false
namespace Go.Proofs.YtgnblhmejecgfaaGreatDoor
open Go Go.RowKit Go.Inn
theorem own : ownKnob Tryz.prog.godebug = none := by kernel_rfl
theorem laidOut : laidOutB Tryz.prog = true := by kernel_rfl
theorem glob_full {W : World} {l : List (String × DataW Unit)} (hl : laidMet Tryz.prog l W) (h0 : ( "innkeep/cmd.kinds", (Rows.laid_innkeep_cmd_kinds : DataW Unit)) ∈ l) (h1 : ( "innkeep/cmd.ways", (Rows.laid_innkeep_cmd_ways : DataW Unit)) ∈ l) (h2 : ( "internal/strconv.uint64pow10", (Rows.laid_internal_strconv_uint64pow10 : DataW Unit)) ∈ l) (h3 : ( "strconv.ErrSyntax", (Rows.laid_strconv_ErrSyntax : DataW Unit)) ∈ l) (h4 : ( "strconv.ErrRange", (Rows.laid_strconv_ErrRange : DataW Unit)) ∈ l) : glob.on (full W) := by
  obtain ⟨g, t, cs, fuel, p, hg, ht, hv, hd⟩ := Lib.laidMet.reads hl h0
  obtain rfl : g = 1 := (Option.some.inj ((show Tryz.prog.globalNamed "innkeep/cmd.kinds" = some 1 by kernel_rfl).symm.trans hg)).symm
  obtain rfl : t = 133 := (Option.some.inj ((show (Tryz.prog.globals[1]?).map (·.type) = some 133 by kernel_rfl).symm.trans ht)).symm
  have b := var_block hg hv
  have hc : cs.toList = kindsL.map str := tab_cells (lit := fun s => .lit (.string s)) Tryz.underlying133 (by kernel_rfl) (by kernel_rfl) (by decide) (one_str Tryz.underlying9) hd
  have r0 : At (full W) 1 0 kindsA := at_block b (by rw [hc]; exact arr_strs (full W) kindsL (by decide))
  clear hg ht hv hd b
  obtain ⟨g, t, cs, fuel, p, hg, ht, hv, hd⟩ := Lib.laidMet.reads hl h1
  obtain rfl : g = 0 := (Option.some.inj ((show Tryz.prog.globalNamed "innkeep/cmd.ways" = some 0 by kernel_rfl).symm.trans hg)).symm
  obtain rfl : t = 129 := (Option.some.inj ((show (Tryz.prog.globals[0]?).map (·.type) = some 129 by kernel_rfl).symm.trans ht)).symm
  have b := var_block hg hv
  have hc : cs.toList = waysL.map str := tab_cells (lit := fun s => .lit (.string s)) Tryz.underlying129 (by kernel_rfl) (by kernel_rfl) (by decide) (one_str Tryz.underlying9) hd
  have r1 : At (full W) 0 0 waysA := at_block b (by rw [hc]; exact arr_strs (full W) waysL (by decide))
  clear hg ht hv hd b
  obtain ⟨g, t, cs, fuel, p, hg, ht, hv, hd⟩ := Lib.laidMet.reads hl h2
  obtain rfl : g = 2 := (Option.some.inj ((show Tryz.prog.globalNamed "internal/strconv.uint64pow10" = some 2 by kernel_rfl).symm.trans hg)).symm
  obtain rfl : t = 181 := (Option.some.inj ((show (Tryz.prog.globals[2]?).map (·.type) = some 181 by kernel_rfl).symm.trans ht)).symm
  have b := var_block hg hv
  have hc : cs.toList = Lib.pow10Tab.map (Value.int .u64) := tab_cells (lit := fun z => .lit (.int .u64 z)) Tryz.underlying181 (by kernel_rfl) (by kernel_rfl) (by decide) (one_int Tryz.underlying170) hd
  have r2 : Tab (full W) 2 (Lib.pow10Tab.map fun z => Value.int .u64 z).toArray := by rw [← hc]; simpa [Tab] using b
  clear hg ht hv hd b
  obtain ⟨g, t, cs, fuel, p, hg, ht, hv, hd⟩ := Lib.laidMet.reads hl h3
  obtain rfl : g = 6 := (Option.some.inj ((show Tryz.prog.globalNamed "strconv.ErrSyntax" = some 6 by kernel_rfl).symm.trans hg)).symm
  obtain rfl : t = 155 := (Option.some.inj ((show (Tryz.prog.globals[6]?).map (·.type) = some 155 by kernel_rfl).symm.trans ht)).symm
  have b := var_block hg hv
  obtain ⟨u, v, hc⟩ := one_iface Tryz.underlying155 hd
  have r3 : ∃ t p, Tab (full W) 6 #[.iface t p] := ⟨u, v, by have e : cs = #[.iface u v] := by { cases cs; simp_all }; rw [← e]; exact b⟩
  clear hg ht hv hd b
  obtain ⟨g, t, cs, fuel, p, hg, ht, hv, hd⟩ := Lib.laidMet.reads hl h4
  obtain rfl : g = 7 := (Option.some.inj ((show Tryz.prog.globalNamed "strconv.ErrRange" = some 7 by kernel_rfl).symm.trans hg)).symm
  obtain rfl : t = 155 := (Option.some.inj ((show (Tryz.prog.globals[7]?).map (·.type) = some 155 by kernel_rfl).symm.trans ht)).symm
  have b := var_block hg hv
  obtain ⟨u, v, hc⟩ := one_iface Tryz.underlying155 hd
  have r4 : ∃ t p, Tab (full W) 7 #[.iface t p] := ⟨u, v, by have e : cs = #[.iface u v] := by { cases cs; simp_all }; rw [← e]; exact b⟩
  clear hg ht hv hd b
  exact { kinds := r0, ways := r1, pow := r2, errS := r3, errR := r4 }
end Go.Proofs.YtgnblhmejecgfaaGreatDoor

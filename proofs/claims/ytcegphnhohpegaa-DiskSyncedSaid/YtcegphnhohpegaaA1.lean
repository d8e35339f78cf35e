/- The walks of crc's table and Update. -/
import Derived.Test.YtcegphnhohpegaaA0
set_option linter.unusedVariables false
set_option linter.unusedSimpArgs false
namespace Go.Proofs.Ytcegphnhohpegaa
open Go.RowKit
theorem tba0 : bits .and .u32 0 1 = 0 := by decide
theorem tba1 : bits .and .u32 1 1 = 1 := by decide
theorem tba2 : bits .and .u32 2 1 = 0 := by decide
theorem tba3 : bits .and .u32 3 1 = 1 := by decide
theorem tba4 : bits .and .u32 4 1 = 0 := by decide
theorem tba5 : bits .and .u32 5 1 = 1 := by decide
theorem tba6 : bits .and .u32 6 1 = 0 := by decide
theorem tba7 : bits .and .u32 7 1 = 1 := by decide
theorem tba8 : bits .and .u32 8 1 = 0 := by decide
theorem tba9 : bits .and .u32 9 1 = 1 := by decide
theorem tba10 : bits .and .u32 10 1 = 0 := by decide
theorem tba11 : bits .and .u32 11 1 = 1 := by decide
theorem tba12 : bits .and .u32 12 1 = 0 := by decide
theorem tba13 : bits .and .u32 13 1 = 1 := by decide
theorem tba14 : bits .and .u32 14 1 = 0 := by decide
theorem tba15 : bits .and .u32 15 1 = 1 := by decide
theorem tba16 : bits .and .u32 549293790 1 = 0 := by decide
theorem tba17 : bits .and .u32 549293791 1 = 1 := by decide
theorem tba18 : bits .and .u32 1098587580 1 = 0 := by decide
theorem tba19 : bits .and .u32 1098587581 1 = 1 := by decide
theorem tba20 : bits .and .u32 1098587582 1 = 0 := by decide
theorem tba21 : bits .and .u32 1098587583 1 = 1 := by decide
theorem tba22 : bits .and .u32 1640403810 1 = 0 := by decide
theorem tba23 : bits .and .u32 1640403811 1 = 1 := by decide
theorem tba24 : bits .and .u32 2197175160 0 = 0 := by decide
theorem tba25 : bits .and .u32 2197175160 1 = 0 := by decide
theorem tba26 : bits .and .u32 2197175160 4294967295 = 2197175160 := by decide
theorem tba27 : bits .and .u32 2197175161 1 = 1 := by decide
theorem tba28 : bits .and .u32 2197175162 1 = 0 := by decide
theorem tba29 : bits .and .u32 2197175163 1 = 1 := by decide
theorem tba30 : bits .and .u32 2197175164 1 = 0 := by decide
theorem tba31 : bits .and .u32 2197175165 1 = 1 := by decide
theorem tba32 : bits .and .u32 2197175166 1 = 0 := by decide
theorem tba33 : bits .and .u32 2197175167 1 = 1 := by decide
theorem tba34 : bits .and .u32 2722870694 1 = 0 := by decide
theorem tba35 : bits .and .u32 2722870695 1 = 1 := by decide
theorem tba36 : bits .and .u32 3280807620 1 = 0 := by decide
theorem tba37 : bits .and .u32 3280807621 1 = 1 := by decide
theorem tba38 : bits .and .u32 3280807622 1 = 0 := by decide
theorem tba39 : bits .and .u32 3280807623 1 = 1 := by decide
theorem tba40 : bits .and .u32 3811616794 1 = 0 := by decide
theorem tba41 : bits .and .u32 3811616795 1 = 1 := by decide
theorem tbx0 : bits .xor .u32 0 0 = 0 := by decide
theorem tbx1 : bits .xor .u32 0 2197175160 = 2197175160 := by decide
theorem tbx2 : bits .xor .u32 1 0 = 1 := by decide
theorem tbx3 : bits .xor .u32 1 2197175160 = 2197175161 := by decide
theorem tbx4 : bits .xor .u32 2 0 = 2 := by decide
theorem tbx5 : bits .xor .u32 2 2197175160 = 2197175162 := by decide
theorem tbx6 : bits .xor .u32 3 0 = 3 := by decide
theorem tbx7 : bits .xor .u32 3 2197175160 = 2197175163 := by decide
theorem tbx8 : bits .xor .u32 4 0 = 4 := by decide
theorem tbx9 : bits .xor .u32 4 2197175160 = 2197175164 := by decide
theorem tbx10 : bits .xor .u32 5 0 = 5 := by decide
theorem tbx11 : bits .xor .u32 5 2197175160 = 2197175165 := by decide
theorem tbx12 : bits .xor .u32 6 0 = 6 := by decide
theorem tbx13 : bits .xor .u32 6 2197175160 = 2197175166 := by decide
theorem tbx14 : bits .xor .u32 7 0 = 7 := by decide
theorem tbx15 : bits .xor .u32 7 2197175160 = 2197175167 := by decide
theorem tbx16 : bits .xor .u32 274646895 0 = 274646895 := by decide
theorem tbx17 : bits .xor .u32 274646895 2197175160 = 2460548119 := by decide
theorem tbx18 : bits .xor .u32 549293790 0 = 549293790 := by decide
theorem tbx19 : bits .xor .u32 549293790 2197175160 = 2722870694 := by decide
theorem tbx20 : bits .xor .u32 549293791 0 = 549293791 := by decide
theorem tbx21 : bits .xor .u32 549293791 2197175160 = 2722870695 := by decide
theorem tbx22 : bits .xor .u32 820201905 0 = 820201905 := by decide
theorem tbx23 : bits .xor .u32 820201905 2197175160 = 2987750089 := by decide
theorem tbx24 : bits .xor .u32 1098587580 0 = 1098587580 := by decide
theorem tbx25 : bits .xor .u32 1098587580 2197175160 = 3280807620 := by decide
theorem tbx26 : bits .xor .u32 1098587581 0 = 1098587581 := by decide
theorem tbx27 : bits .xor .u32 1098587581 2197175160 = 3280807621 := by decide
theorem tbx28 : bits .xor .u32 1098587582 0 = 1098587582 := by decide
theorem tbx29 : bits .xor .u32 1098587582 2197175160 = 3280807622 := by decide
theorem tbx30 : bits .xor .u32 1098587583 0 = 1098587583 := by decide
theorem tbx31 : bits .xor .u32 1098587583 2197175160 = 3280807623 := by decide
theorem tbx32 : bits .xor .u32 1361435347 0 = 1361435347 := by decide
theorem tbx33 : bits .xor .u32 1361435347 2197175160 = 3553878443 := by decide
theorem tbx34 : bits .xor .u32 1640403810 0 = 1640403810 := by decide
theorem tbx35 : bits .xor .u32 1640403810 2197175160 = 3811616794 := by decide
theorem tbx36 : bits .xor .u32 1640403811 0 = 1640403811 := by decide
theorem tbx37 : bits .xor .u32 1640403811 2197175160 = 3811616795 := by decide
theorem tbx38 : bits .xor .u32 1905808397 0 = 1905808397 := by decide
theorem tbx39 : bits .xor .u32 1905808397 2197175160 = 4084100981 := by decide
attribute [local go_sem] tba0 tba1 tba2 tba3 tba4 tba5 tba6 tba7 tba8 tba9 tba10 tba11 tba12 tba13 tba14 tba15 tba16 tba17 tba18 tba19 tba20 tba21 tba22 tba23 tba24 tba25 tba26 tba27 tba28 tba29 tba30 tba31 tba32 tba33 tba34 tba35 tba36 tba37 tba38 tba39 tba40 tba41 tbx0 tbx1 tbx2 tbx3 tbx4 tbx5 tbx6 tbx7 tbx8 tbx9 tbx10 tbx11 tbx12 tbx13 tbx14 tbx15 tbx16 tbx17 tbx18 tbx19 tbx20 tbx21 tbx22 tbx23 tbx24 tbx25 tbx26 tbx27 tbx28 tbx29 tbx30 tbx31 tbx32 tbx33 tbx34 tbx35 tbx36 tbx37 tbx38 tbx39

/-- The table, as its bytes stand. -/
def tabL : List Int := [0, 274646895, 549293790, 820201905, 1098587580, 1361435347, 1640403810, 1905808397, 2197175160, 2460548119, 2722870694, 2987750089, 3280807620, 3553878443, 3811616794, 4084100981]
def tab (i : Int) : Int := tabL.getD i.toNat 0
end Go.Proofs.Ytcegphnhohpegaa

/- The printed texts that lean on no text by hand, under one name. -/
import Derived.Test.YtofnhgpiipmegaaDoorPVx0
import Derived.Test.YtofnhgpiipmegaaDoorPVx1
import Derived.Test.YtofnhgpiipmegaaDoorPVx2
import Derived.Test.YtofnhgpiipmegaaDoorPVx3
import Derived.Test.YtofnhgpiipmegaaDoorPVx4
import Derived.Test.YtofnhgpiipmegaaDoorPVx5
import Derived.Test.YtofnhgpiipmegaaDoorPVx6
